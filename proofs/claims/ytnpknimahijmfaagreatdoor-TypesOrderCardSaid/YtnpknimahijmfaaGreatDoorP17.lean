/-
  Texts joined.
-/
import Derived.Test.YtnpknimahijmfaaGreatDoorP0
import Derived.Test.YtnpknimahijmfaaGreatDoorP16
import Derived.Test.YtnpknimahijmfaaGreatDoorP15
import Derived.Test.YtnpknimahijmfaaGreatDoorP14
import Derived.Test.YtnpknimahijmfaaGreatDoorP12
import Derived.Test.YtnpknimahijmfaaGreatDoorP1
set_option linter.unusedVariables false
set_option linter.unusedSimpArgs false
set_option maxRecDepth 100000
namespace Go.Abs
theorem reach_pre {h:Heap} {n0:Nat}:∀ (fu:Nat) (l acc:List Nat),acc <+: reach h n0 fu l acc
 | 0,l,acc=>by unfold reach; exact List.prefix_refl _
 | _+1,[],acc=>by unfold reach; exact List.prefix_refl _
 | fu+1,i :: r,acc=>by
  unfold reach
  split
  ·exact reach_pre fu r acc
  ·split
   ·exact reach_pre fu r acc
   ·exact (List.prefix_append acc [i]).trans (reach_pre fu _ _)
theorem idxIn_pre {i:Nat}:∀ {k l:List Nat},k <+: l→i ∈ k→idxIn i l=idxIn i k
 | [],_,_,h=>by cases h
 | j :: k,l,hp,h=>by
  obtain ⟨t,rfl⟩:=hp
  rw [ce]
  unfold idxIn
  split
  ·rfl
  ·rename_i hne
   have hm:i ∈ k:=(bu.1 h).resolve_left fun e=>hne e.symm
   rw [idxIn_pre (List.prefix_append k t) hm]
theorem finish_first {h0 h:Heap} {v:AVal} (hv:v.under h0.size=false) (K:List Nat) (hK:K <+: reach h h0.size 1000 v.ids []) :
  (∃ w,finish h0 v h=(v,⟨h.objs,h.base,w⟩)∧(w=min h0.wmin h.wmin∨(w=h0.wmin∧h0.size≤h.wmin))) ∨
  (h0.size≤h.wmin∧∃ f I X,finish h0 v h=(v.ren f,⟨h0.objs++X,h0.base,h0.wmin⟩)∧Moves f I h0.size h.objs (h0.objs++X)∧(∀ j ∈ v.ids,h0.size≤j→I j)∧(∀ j ∈ K,I j∧f j=h0.size+idxIn j K)):=by
 unfold finish
 by_cases hw:h.wmin < h0.size
 ·rw [if_pos hw]; exact .inl ⟨_,rfl,.inl rfl⟩
 ·rw [if_neg hw,hv]
  simp only [am,if_false]
  generalize hk:reach h h0.size 1000 v.ids []=k at hK
  have hge:∀ i ∈ k,h0.size≤i:=by rw [← hk]; exact reach_ge _ _ _ (by simp)
  split
  ·rename_i hok
   refine .inr ⟨by omega,fun i=>if i < h0.size then i else h0.size+idxIn i k,fun i=>i ∈ k,_,rfl,⟨fun i obj hi ho=>?_,fun i obj hi ho j hj hn=>?_,fun i hi=>?_⟩,fun j hj hn=>?_,fun j hj=>?_⟩
   ·have h1:=hge i hi
    obtain ⟨h2,h3⟩:=idxIn_lt hi
    have h4:¬ i < h0.size:=by omega
    simp only [if_neg h4]
    have h5:h0.size=h0.objs.length:=rfl
    rw [h5,ak (by omega),Nat.add_sub_cancel_left,cz,h3]
    have h6:h.get i=some obj:=ho
    simp only [cf,h6,de]
   ·rw [al] at hok
    have h6:h.get i=some obj:=ho
    have:=hok j (gg _ (eg.2 ⟨i,hi,by rw [h6]; exact hj⟩))
    simp only [dz,decide_eq_true_eq] at this
    rcases this with h7 | h7
    ·omega
    ·simpa using h7
   ·show h0.size≤if i < h0.size then i else h0.size+idxIn i k
    rw [if_neg (by omega)]; omega
   ·rw [al] at hok
    have:=hok j (fh _ hj)
    simp only [dz,decide_eq_true_eq] at this
    rcases this with h7 | h7
    ·omega
    ·simpa using h7
   ·have hjk:j ∈ k:=hK.subset hj
    have:=hge j hjk
    refine ⟨hjk,?_⟩
    show (if j < h0.size then j else h0.size+idxIn j k)=_
    rw [if_neg (by omega),idxIn_pre hK hj]
  ·exact .inl ⟨_,rfl,.inr ⟨rfl,by omega⟩⟩
theorem ids_ents {κ ν:Type} {kf:κ→AVal} {vf:ν→AVal} (hk:∀ x,(kf x).ids=[]) (hv:∀ x,(vf x).ids=[]):∀ (A:List (κ × ν)) (i:Nat),((ents kf vf i A).flatMap fun (k,v,_)=>k.ids++v.ids)=[]
 | [],_=>rfl
 | (k,v) :: A,i=>by
  have ih:=ids_ents hk hv A (i+1)
  simp only [ents,co,hk,hv,cg,b0]
  exact ih
theorem ids_mObj {κ ν:Type} {kf:κ→AVal} {vf:ν→AVal} (hk:∀ x,(kf x).ids=[]) (hv:∀ x,(vf x).ids=[]) (A:List (κ × ν)):(mObj kf vf A).ids=[]:=ids_ents hk hv A 0
theorem ren_ents {κ ν:Type} {kf:κ→AVal} {vf:ν→AVal} {f:Nat→Nat} (hk:∀ x,(kf x).ren f=kf x) (hv:∀ x,(vf x).ren f=vf x):∀ (A:List (κ × ν)) (i:Nat),((ents kf vf i A).map fun (k,v,b)=>(k.ren f,v.ren f,b))=ents kf vf i A
 | [],_=>rfl
 | (k,v) :: A,i=>by
  have ih:=ren_ents hk hv A (i+1)
  simp only [ents,bw,hk,hv]
  rw [ih]
theorem ren_mObj {κ ν:Type} {kf:κ→AVal} {vf:ν→AVal} {f:Nat→Nat} (hk:∀ x,(kf x).ren f=kf x) (hv:∀ x,(vf x).ren f=vf x) (A:List (κ × ν)):(mObj kf vf A).ren f=mObj kf vf A:=by
 unfold mObj
 simp only [AObj.ren]
 rw [ren_ents hk hv]
namespace AbsHier
open Go.Abs.AbsDesc
variable {O O':List AObj} {b w N:Nat} {S:List (Str × Str)} {F M:List (Key × Mem)} {V:List (Key × Bool)}
theorem keyF_ids (x:Key):(keyF x).ids=[]:=by obtain ⟨a,b,c⟩:=x; simp [keyF,AVal.ids,AVal.idsL]
theorem memF_ids (x:Mem):(memF x).ids=[]:=by simp [memF,AVal.ids,AVal.idsL]
theorem keyF_ren (f:Nat→Nat) (x:Key):(keyF x).ren f=keyF x:=by obtain ⟨a,b,c⟩:=x; simp [keyF,AVal.ren,AVal.renL]
theorem memF_ren (f:Nat→Nat) (x:Mem):(memF x).ren f=memF x:=by simp [memF,AVal.ren,AVal.renL]
theorem str_ids (x:Str):(AVal.str x).ids=[]:=by simp [AVal.ids]
theorem str_ren (f:Nat→Nat) (x:Str):(AVal.str x).ren f = .str x:=by simp [AVal.ren]
theorem bool_ids (x:Bool):(AVal.bool x).ids=[]:=by simp [AVal.ids]
theorem bool_ren (f:Nat→Nat) (x:Bool):(AVal.bool x).ren f = .bool x:=by simp [AVal.ren]
theorem world_reach (h:World O N S F M V) {n:Nat} (hn:n≤N) (r:List Nat):[N,N+1,N+2,N+3,N+4] <+: reach ⟨O,b,w⟩ n 1000 (N :: r) []:=by
 have h0:(⟨O,b,w⟩:Heap).get N=_:=h.w0
 have h1:(⟨O,b,w⟩:Heap).get (N+1)=_:=h.m1
 have h2:(⟨O,b,w⟩:Heap).get (N+2)=_:=h.m2
 have h3:(⟨O,b,w⟩:Heap).get (N+3)=_:=h.m3
 have h4:(⟨O,b,w⟩:Heap).get (N+4)=_:=h.m4
 have e1:=ids_mObj str_ids str_ids S
 have e2:=ids_mObj keyF_ids memF_ids F
 have e3:=ids_mObj keyF_ids memF_ids M
 have e4:=ids_mObj keyF_ids bool_ids V
 have g0:¬ N < n:=by omega
 have g1:¬ N+1 < n:=by omega
 have g2:¬ N+2 < n:=by omega
 have g3:¬ N+3 < n:=by omega
 have g4:¬ N+4 < n:=by omega
 have s0:reach ⟨O,b,w⟩ n 1000 (N :: r) []=reach ⟨O,b,w⟩ n 995 r [N,N+1,N+2,N+3,N+4]:=by
  rw [reach,if_neg g0,if_neg (by simp),h0]
  simp only [cf,de,AObj.ids,AVal.idsL,AVal.ids,ce,b0]
  rw [reach,if_neg g1,if_neg (by simp),h1]
  simp only [cf,de,e1,b0,ce]
  rw [reach,if_neg g2,if_neg (by simp),h2]
  simp only [cf,de,e2,b0,ce]
  rw [reach,if_neg g3,if_neg (by simp),h3]
  simp only [cf,de,e3,b0,ce]
  rw [reach,if_neg g4,if_neg (by simp),h4]
  simp only [cf,de,e4,b0,ce]
 rw [s0]
 exact reach_pre _ _ _
theorem World.move (h:World O N S F M V) {f:Nat→Nat} {I:Nat→Prop} {n:Nat} (hm:Moves f I n O O') (hf:∀ j ∈ [N,N+1,N+2,N+3,N+4],I j∧f j=n+idxIn j [N,N+1,N+2,N+3,N+4]):World O' n S F M V:=by
 obtain ⟨i0,f0⟩:=hf N (by simp)
 obtain ⟨i1,f1⟩:=hf (N+1) (by simp)
 obtain ⟨i2,f2⟩:=hf (N+2) (by simp)
 obtain ⟨i3,f3⟩:=hf (N+3) (by simp)
 obtain ⟨i4,f4⟩:=hf (N+4) (by simp)
 simp [idxIn] at f0 f1 f2 f3 f4
 have k0:=hm.at' _ _ i0 h.w0
 have k1:=hm.at' _ _ i1 h.m1
 have k2:=hm.at' _ _ i2 h.m2
 have k3:=hm.at' _ _ i3 h.m3
 have k4:=hm.at' _ _ i4 h.m4
 rw [f0] at k0
 rw [f1,ren_mObj (str_ren f) (str_ren f)] at k1
 rw [f2,ren_mObj (keyF_ren f) (memF_ren f)] at k2
 rw [f3,ren_mObj (keyF_ren f) (memF_ren f)] at k3
 rw [f4,ren_mObj (keyF_ren f) (bool_ren f)] at k4
 refine ⟨?_,k1,k2,k3,k4⟩
 simpa [AObj.ren,AVal.renL,AVal.ren,f1,f2,f3,f4] using k0
end AbsHier
namespace AbsTyp
open Go.Abs.AbsDesc Go.Abs.AbsHier
open Go.Abs.AbsOrd hiding T sub
variable {os O:List AObj} {b w:Nat}
theorem allU_over {n m:Nat} {l:List UnitU} (hm:n≤m) (hl:∀ u ∈ l,u.over n):∀ u ∈ allU m l,u.over n:=by
 have hn:over n none:=fun i o e=>by cases e
 have hp:∀ a b,(plainU a b).over n:=fun a b=>⟨hn,hn,fun m hm=>by cases hm⟩
 have hs:(sysU m).over n:=⟨hn,fun i o e=>by cases e; exact hm,fun x hx=>by
  obtain ⟨y,hy,rfl⟩:=d8.1 hx
  exact ⟨hn,hn,hn,fun z hz=>by cases hz⟩⟩
 intro u hu
 unfold allU at hu
 rcases bp.1 hu with hu | hu
 ·unfold builtU at hu
  rcases bp.1 hu with hu | hu
  ·simp only [built3,bu,eq,or_false] at hu
   rcases hu with rfl | rfl | rfl
   ·exact hp _ _
   ·exact hp _ _
   ·exact hs
  ·obtain ⟨y,hy,rfl⟩:=d8.1 hu
   exact hp _ _
 ·exact hl u hu
theorem s240 {tb:List UInt8} {a:Option (Nat × Nat)} {c:Option Nat} (hR:Row O 1 byteCell tb a) (hu:under O.length a) (ht:tb.length≤1000) (hb:b≤O.length) (w:Nat) :
  ∃ (N w':Nat) (P:List AObj) (W:List UnitU) (ra:Option (Nat × Nat)) (F M:List (Key × Mem)),O.length≤N∧Pre O P∧(O.length≤w→O.length≤w')∧AbsHier.World P N AbsMake.SM F M builtV∧Units P W ra∧W.map supE=AbsMake.SM ∧
   xCall T 240 [.slice a tb.length c] ⟨O,b,w⟩=some (.tuple [.ptr (some (N,0)),.slice ra W.length none,.bool true],⟨P,b,w'⟩):=by
 have hG:AbsMake.Good (O++[.cells 2 [.slice a tb.length c,.int .i64 0]]) O.length tb (.slice a tb.length c):=by
  refine ⟨⟨0,by rw [dk]; rfl,dp _,ht⟩,a,c,rfl,(Pre.app O _).row hR,fun i o e=>?_⟩
  have:=hu i o e; omega
 obtain ⟨ua,uc,l,O1,w1,e1,hl,hRl,hok,hul,hS,hK,hw,hw2⟩:=AbsMake.s48o hG (b:=b) hb O.length
 obtain ⟨F,M,hW⟩:=AbsMake.worldS_made hS
 have hlen:=hK.len
 simp only [au,ew] at hlen
 have hPre:Pre O O1:=fun i o ho=>by
  have:=ai ho
  exact hK.at' i o (by omega) (by rw [ag this]; exact ho)
 have h49:=fun w=>s49 (b:=b) (w:=w) (c:=uc) hRl (fun u hm=>(hok u hm).1) (by rw [hl]; decide) (by omega)
 rw [hl,hW] at h49
 simp only [newV,newO] at h49
 have hWo:=wO_world O1 AbsMake.SM F M builtV
 have hP1:=wO_pre O1 AbsMake.SM F M builtV
 generalize hO2:wO O1 AbsMake.SM F M builtV=O2 at *
 have hl2:O2.length=O1.length+5:=by rw [← hO2]; simp [wO]
 have h107:=fun w=>s107 (O:=O2) (b:=b) (w:=w) (c:=uc) (hP1.row hRl) (by rw [hl]; decide) (fun u hu=>⟨(hok u hu).1.pre hP1,(hok u hu).2.1.cap⟩) (by omega)
 have hwu:worldU (O2.length+1) l=true:=by
  have:=worldS_eq (O2.length+1) l
  rw [hW] at this
  split at this
  ·assumption
  ·cases this
 have hsup:(allU (O2.length+1) l).map supE=AbsMake.SM:=by
  have:=worldS_eq (O2.length+1) l
  rw [hW,hwu] at this
  simp only [if_true,bl,dx] at this
  exact this.1.symm
 rw [hwu,hl] at h107
 simp only [if_true] at h107
 have hU:=worldO_units (O:=O2) (l:=l) (by rw [hl]; decide) (fun u hu=>(hok u hu).1.pre hP1)
 have hlU:(allU (O2.length+1) l).length=13:=by rw [allU_len,hl]
 have hover:∀ u ∈ allU (O2.length+1) l,u.over O.length:=allU_over (by omega) fun u hu=>by
  have:=(hok u hu).2.2
  exact ⟨fun i o e=>by have:=this.f i o e; simp only [au] at this; omega,fun i o e=>by have:=this.m i o e; simp only [au] at this; omega,fun m hm=>⟨fun i o e=>by have:=(this.ms m hm).c i o e; simp only [au] at this; omega,fun i o e=>by have:=(this.ms m hm).t i o e; simp only [au] at this; omega,fun i o e=>by have:=(this.ms m hm).x i o e; simp only [au] at this; omega,fun x hx=>⟨fun i o e=>by have:=((this.ms m hm).xs x hx).l i o e; simp only [au] at this; omega,fun i o e=>by have:=((this.ms m hm).xs x hx).s i o e; simp only [au] at this; omega⟩⟩⟩
 have hWo2:AbsHier.World (worldO O2 l) O1.length AbsMake.SM F M builtV:=hWo.app _
 have hlw:O2.length < (worldO O2 l).length:=by unfold worldO; simp
 have hPreO:Pre O (worldO O2 l):=(hPre.trans hP1).trans (Pre.app _ _)
 have e48:=gd AbsTyp.sub (gd AbsOrd.sub e1)
 have e49:=fun w=>gd subT (h49 w)
 have e107:=fun w=>gd subT (h107 w)
 generalize hOw:worldO O2 l=Ow at *
 generalize allU (O2.length+1) l=W at *
 have hv:(AVal.tuple [.ptr (some (O1.length,0)),.slice (some (O2.length,0)) 13 none,.bool true]).under (⟨O,b,w⟩:Heap).size=false:=by
  have:¬ O1.length < O.length:=by omega
  simp [AVal.under,AVal.unders,Heap.size,this]
 have hids:(AVal.tuple [.ptr (some (O1.length,0)),.slice (some (O2.length,0)) 13 none,.bool true]).ids=[O1.length,O2.length]:=by simp [AVal.ids,AVal.idsL]
 have hK1:[O1.length,O1.length+1,O1.length+2,O1.length+3,O1.length+4] <+: reach ⟨Ow,b,w1⟩ (⟨O,b,w⟩:Heap).size 1000 (AVal.tuple [.ptr (some (O1.length,0)),.slice (some (O2.length,0)) 13 none,.bool true]).ids []:=by
  rw [hids]
  exact world_reach hWo2 (by show O.length≤_; omega) _
 have hrun:xCall T 240 [.slice a tb.length c] ⟨O,b,w⟩=some (finish ⟨O,b,w⟩ (.tuple [.ptr (some (O1.length,0)),.slice (some (O2.length,0)) 13 none,.bool true]) ⟨Ow,b,w1⟩):=by
  simp (disch:=omega) [-getElem?_pos,-getElem?_neg,-List.all_eq_true,gz,gs,nltT,nltF,iltT,iltF,ileT,nleT,df,-finish,aw t240,code240,e48,e49,e107,hlU]
 rw [hrun]
 rcases finish_first (h:=⟨Ow,b,w1⟩) hv _ hK1 with ⟨w',h1,h2⟩ | ⟨h1,f,I,X,h2,h3,h4,h5⟩
 ·refine ⟨O1.length,w',Ow,W,some (O2.length,0),F,M,by omega,hPreO,fun hh=>?_,hWo2,hU,hsup,by rw [h1,hlU]⟩
  rcases h2 with h2 | ⟨h2,_⟩
  ·simp only at h2; omega
  ·simp only at h2; omega
 ·have hin:inI I (some (O2.length,0)):=fun i o e=>by
   simp only [bl,dx] at e
   rw [← e.1]; exact h4 _ (by rw [hids]; simp) (by show O.length≤_; omega)
  have hR2:=h3.row (F':=UnitU.cells) (g:=UnitU.ren f) hU.r hin fun u=>ren_unitU u
  have hf0:f O1.length=O.length:=by
   have:=(h5 O1.length (by simp)).2
   simpa [idxIn,Heap.size] using this
  refine ⟨O.length,w,O++X,W.map (UnitU.ren f),renA f (some (O2.length,0)),F,M,aj _,Pre.app _ _,id,hWo2.move h3 h5,⟨hR2,by rw [fo]; exact hU.n,fun u hm=>?_⟩,?_,?_⟩
  ·obtain ⟨v,hv,rfl⟩:=d8.1 hm
   exact (hU.ok v hv).move h3 (hover v hv) (h3.ids hU.r hin hv)
  ·rw [List.map_map,← hsup]
   rfl
  ·rw [h2,fo,hlU]
   simp [AVal.ren,AVal.renL,hf0,renA]
end AbsTyp
end Go.Abs

namespace Go.Abs.AbsTyp
open Go.Abs.AbsDesc Go.Abs.AbsHier
open Go.Abs.AbsOrd hiding T sub
variable {os O:List AObj} {b w:Nat} {N:Nat} {S:List (Str × Str)} {F M:List (Key × Mem)} {V:List (Key × Bool)}
section
variable {f:FrU}
section
attribute [-simp] getElem?_pos getElem?_neg List.all_eq_true sget
attribute [local simp] gz gs nltT nltF iltT iltF ileT nleT df iw ix iy
set_option maxHeartbeats 2000000 in
theorem reg250 (hf:f.ok O) (hu:f.low O.length) (hb:b≤O.length) (hn1:f.locals.length≤100) (hn2:f.stack.length≤100) {x6 x7:List AVal} {v9 v11 v12:AVal} (w:Nat):∃ X a c w',Both O X f.locals f.stack a w w'∧∀ (k:AExit→St→Option (AVal × Heap)),
  xK T code250R0 ⟨[(5,.var f.cells),(6,.var x6),(7,.var x7),(9,.val v9),(11,.val v11),(12,.val v12)],⟨O,b,w⟩⟩ (k:=⟨k⟩)=k .normal ⟨[(5,.var f.cells),(6,.var x6),(7,.var x7),(9,.val v9),(11,.val v11),(12,.val v12),(47,.val (.slice a (f.locals++f.stack).length c)),(48,.val (.int .i64 ((f.locals++f.stack).length:Int))),(49,.val (.int .i64 0))],⟨O++X,b,w'⟩⟩:=by
 have hfc:f.cells=[.slice f.la f.locals.length f.lc,.slice f.sa f.stack.length f.sc]:=rfl
 have hl1:=fun b w=>rowOf_row (f:=strC) (e:=1) (h:=⟨O++[.cells 1 []],b,w⟩) (c:=f.lc) ((Pre.app O _).row hf.l.r)
 have hs1:=fun b w=>rowOf_row (f:=strC) (e:=1) (h:=⟨O++[.cells 1 []],b,w⟩) (c:=f.sc) ((Pre.app O _).row hf.s.r)
 have hl2:=fun b w=>rowOf_row (f:=strC) (e:=1) (h:=⟨O++[.cells 1 [],.cells 1 (f.locals.flatMap strC)],b,w⟩) (c:=f.sc) ((Pre.app O _).row hf.s.r)
 have flatL:(f.locals.flatMap strC).length=f.locals.length*1:=flat_len strC 1 (fun _=>rfl) _
 have hla:(f.locals++f.stack).length=f.locals.length+f.stack.length:=au
 by_cases c1:f.locals.length=0
 ·have e1:f.locals=[]:=bh c1
  by_cases c2:f.stack.length=0
  ·have e2:f.stack=[]:=bh c2
   refine ⟨[.cells 1 []],some (O.length,0),some 0,w,⟨by rw [e1,e2]; exact ⟨fun h=>absurd rfl h⟩,fun _ _ h=>h⟩,fun k=>?_⟩
   rw [hla]
   simp (disch:=omega) [code250R0,hfc,c1,c2,bc,bt,dr,dk,ge,ft,-rowOf,rowOf0,f8 hu.l,f8 hu.s,ky]
  ·refine ⟨[.cells 1 [],.cells 1 (f.stack.flatMap strC)],some (O.length+1,0),none,w,⟨by rw [e1]; exact Row.mk0 (fun _=>rfl) (by rw [dr]; rfl),fun _ _ h=>h⟩,fun k=>?_⟩
   rw [hla]
   simp (disch:=omega) [-rowOf,rowOf0,code250R0,hfc,c1,c2,hs1,bc,bt,dr,dk,ge,ft,f8 hu.l,f8 hu.s,ky]
 ·by_cases c2:f.stack.length=0
  ·have e2:f.stack=[]:=bh c2
   have hz:=fun w=>rowOfC (e:=1) (n:=f.locals.length) (h:=⟨O++[.cells 1 [],.cells 1 (f.locals.flatMap strC)],b,w⟩) (i:=O.length+1) (c:=none) (by rw [dr]; rfl) flatL
   refine ⟨[.cells 1 [],.cells 1 (f.locals.flatMap strC)],some (O.length+1,0),none,w,⟨by rw [e2,cg]; exact Row.mk0 (fun _=>rfl) (by rw [dr]; rfl),fun _ _ h=>h⟩,fun k=>?_⟩
   rw [hla]
   simp (disch:=omega) [-rowOf,rowOf0,hz,code250R0,hfc,c1,c2,hl1,bc,bt,dr,dk,ge,ft,f8 hu.l,f8 hu.s,ky]
  ·have hz:=fun w=>rowOfC (e:=1) (n:=f.locals.length) (h:=⟨O++[.cells 1 [],.cells 1 (f.locals.flatMap strC)],b,w⟩) (i:=O.length+1) (c:=none) (by rw [dr]; rfl) flatL
   refine ⟨[.cells 1 [],.dead,.cells 1 ((f.locals++f.stack).flatMap strC)],some (O.length+2,0),none,min w (O.length+1),⟨Row.mk0 (fun _=>rfl) (by rw [dr]; rfl),fun n _ h=>by omega⟩,fun k=>?_⟩
   rw [hla,gi]
   simp (disch:=omega) [-rowOf,rowOf0,hz,hl2,code250R0,hfc,c1,c2,hl1,bc,bt,dr,dk,ge,ft,f8 hu.l,f8 hu.s,ky]
end
section
attribute [-simp] getElem?_pos getElem?_neg List.all_eq_true
attribute [local simp] gz gs nltT nltF iltT iltF ileT nleT df
theorem l250 {L:List Str} {a:Option (Nat × Nat)} {c:Option Nat} {x5 x6 x7:List AVal} {v11:AVal} (h:AbsHier.World O N S F M V) (hb:b≤O.length) (hS:S.length≤9223372036854775807) (hR:Row O 1 strC L a) (hn:L.length≤1000000) (hs:∀ t ∈ L,t.length≤9223372036854775807):∀ (j i:Nat) (q:Bool) (w:Nat),i+j=L.length→∀ (k:AExit→St→Option (AVal × Heap)),
  xK T (.loop code250L0) ⟨[(5,.var x5),(6,.var x6),(7,.var x7),(9,.val (.ptr (some (N,0)))),(11,.val v11),(12,.val (.bool q)),(47,.val (.slice a L.length c)),(48,.val (.int .i64 L.length)),(49,.val (.int .i64 i))],⟨O,b,w⟩⟩ (k:=⟨k⟩) =
  k (.exit 0) ⟨[(5,.var x5),(6,.var x6),(7,.var x7),(9,.val (.ptr (some (N,0)))),(11,.val v11),(12,.val (.bool (q && (L.drop i).all fun t=>placeS S t t)))],⟨O,b,w⟩⟩
 | 0,i,q,w,hi,k=>by
  rw [ci,bj (by omega)]
  simp (disch:=omega) [code250L0]
 | j+1,i,q,w,hi,k=>by
  obtain ⟨x,hx⟩:∃ x,L[i]? = some x:=⟨_,ah (by omega)⟩
  obtain ⟨p,o,cs,ha,hpp,ht⟩:=str_at hR hx
  have hdx:L.drop i=x :: L.drop (i+1):=gy hx
  have hxl:=hs x (bi hx)
  have h247:=fun w=>s247 (b:=b) h hb hS x x w hxl hxl
  have ih:=l250 (c:=c) (x5:=x5) (x6:=x6) (x7:=x7) (v11:=v11) h hb hS hR hn hs j (i+1) (q && placeS S x x) w (by omega) k
  have e2:((i+1:Nat):Int)=(i:Int)+1:=by omega
  rw [e2] at ih
  subst ha
  rw [ci,hdx,dj,← Bool.and_assoc]
  generalize ACode.loop code250L0=LL at ih ⊢
  cases q with
  | true =>
   simp only [cr] at ih ⊢
   simp (disch:=omega) [code250L0,hpp,ht,h247,ih]
  | false =>
   simp only [dl] at ih ⊢
   simp (disch:=omega) [code250L0,hpp,ht,h247,ih]
end
theorem row_self:∀ L:List Str,rowS S L L=L.all fun t=>placeS S t t
 | []=>rfl
 | x :: L=>by simp only [rowS,dj,row_self L]
theorem place_trans {x y z:Str} (h1:placeS AbsMake.SM x y=true) (h2:placeS AbsMake.SM y z=true):placeS AbsMake.SM x z=true:=by
 unfold placeS at h1 h2 ⊢
 by_cases c1:z=[84]
 ·rw [if_pos c1]
 ·rw [if_neg c1] at h2 ⊢
  have hT:plainS [84]=true:=by decide
  by_cases c2:(plainS y || plainS z)=true
  ·rw [if_pos c2] at h2
   have e:y=z:=of_decide_eq_true h2
   subst e
   rw [if_neg c1] at h1
   exact h1
  ·rw [if_neg c2] at h2
   have c2':plainS y=false∧plainS z=false:=by simpa using c2
   have c3:y≠[84]:=fun e=>by rw [e,hT] at c2'; cases c2'.1
   rw [if_neg c3] at h1
   by_cases c4:(plainS x || plainS y)=true
   ·rw [if_pos c4] at h1
    have e:x=y:=of_decide_eq_true h1
    subst e
    rw [if_neg c2]
    exact h2
   ·rw [if_neg c4] at h1
    have c4':plainS x=false∧plainS y=false:=by simpa using c4
    rw [if_neg (by rw [c4'.1,c2'.2]; decide)]
    exact AbsMake.goesM_trans x y z h1 h2
theorem row_trans:∀ {A B C:List Str},rowS AbsMake.SM A B=true→rowS AbsMake.SM B C=true→rowS AbsMake.SM A C=true
 | [],[],[],_,_=>rfl
 | x :: A,y :: B,z :: C,h1,h2=>by
  simp only [rowS,ap] at h1 h2 ⊢
  exact ⟨place_trans h1.1 h2.1,row_trans h1.2 h2.2⟩
 | [],[],_ :: _,_,h=>by simp [rowS] at h
 | [],_ :: _,_,h,_=>by simp [rowS] at h
 | _ :: _,[],_,h,_=>by simp [rowS] at h
 | _ :: _,_ :: _,[],_,h=>by simp [rowS] at h
theorem goesF_trans {f g k:FrU} (h1:goesF AbsMake.SM f g=true) (h2:goesF AbsMake.SM g k=true):goesF AbsMake.SM f k=true:=by
 unfold goesF at *
 rw [ap] at *
 exact ⟨row_trans h1.1 h2.1,row_trans h1.2 h2.2⟩
theorem s243 {h:Heap}:xCall T 243 [] h=some (.bool true,h):=closed_run (f:=code243) t243 rfl 60 rfl rfl (h':=⟨[],0,0⟩) (by kernel_rfl) h
section
attribute [-simp] getElem?_pos getElem?_neg List.all_eq_true sget
attribute [local simp] gz gs nltT nltF iltT iltF ileT nleT df iw ix iy
theorem s250 {tb:List UInt8} {a:Option (Nat × Nat)} {c:Option Nat} {f g k:FrU} (hR:Row O 1 byteCell tb a) (hu:under O.length a) (hn:tb.length≤reachB) (hb:b≤O.length) (hf:f.ok O) (hfl:f.low O.length) (hg:g.ok O) (hgl:g.low O.length) (hk:k.ok O) (hkl:k.low O.length) :
  xCall T 250 [.slice a tb.length c,.agg f.cells,.agg g.cells,.agg k.cells] ⟨O,b,w⟩=some (.bool true,⟨O,b,w⟩):=by
 have hrb:reachB=140737488351232:=rfl
 have hfc:f.cells=[.slice f.la f.locals.length f.lc,.slice f.sa f.stack.length f.sc]:=rfl
 have hgc:g.cells=[.slice g.la g.locals.length g.lc,.slice g.sa g.stack.length g.sc]:=rfl
 have hkc:k.cells=[.slice k.la k.locals.length k.lc,.slice k.sa k.stack.length k.sc]:=rfl
 have h243:=fun h=>s243 (h:=h)
 have f1:=fun w=>s242 hf hfl hb w
 have f2:=fun w=>s242 hg hgl hb w
 have f3:=fun w=>s242 hk hkl hb w
 by_cases c1:(100:Int) < tb.length
 ·simp (disch:=omega) [aw t250,code250,h243,c1]
 ·cases q1:fewF f with
  | false=>rw [q1,hfc] at f1; simp (disch:=omega) [aw t250,code250,h243,c1,hfc,f1]
  | true=>?_
  cases q2:fewF g with
  | false=>rw [q1,hfc] at f1; rw [q2,hgc] at f2; simp (disch:=omega) [aw t250,code250,h243,c1,hfc,hgc,f1,f2]
  | true=>?_
  cases q3:fewF k with
  | false=>rw [q1,hfc] at f1; rw [q2,hgc] at f2; rw [q3,hkc] at f3; simp (disch:=omega) [aw t250,code250,h243,c1,hfc,hgc,hkc,f1,f2,f3]
  | true=>?_
  rw [q1] at f1
  rw [q2] at f2
  rw [q3] at f3
  have few1:f.locals.length≤100∧f.stack.length≤100:=by
   unfold fewF at q1
   simp only [ap,decide_eq_true_eq] at q1
   exact q1.1
  obtain ⟨N,w',P,W,ra,F,M,hN,hP,hw',hW,_,_,e240⟩:=s240 (c:=c) hR hu (by omega) hb O.length
  have hw':=hw' (aj _)
  have hbP:b≤P.length:=by have:=hP.len; omega
  have hfP:f.ok P:=⟨⟨hP.row hf.l.r,hf.l.n,hf.l.s⟩,⟨hP.row hf.s.r,hf.s.n,hf.s.s⟩⟩
  have hgP:g.ok P:=⟨⟨hP.row hg.l.r,hg.l.n,hg.l.s⟩,⟨hP.row hg.s.r,hg.s.n,hg.s.s⟩⟩
  have hkP:k.ok P:=⟨⟨hP.row hk.l.r,hk.l.n,hk.l.s⟩,⟨hP.row hk.s.r,hk.s.n,hk.s.s⟩⟩
  have hlow:f.low P.length:=⟨fun i o e=>ep (hfl.l i o e) hP.len,fun i o e=>ep (hfl.s i o e) hP.len⟩
  have hSl:AbsMake.SM.length≤9223372036854775807:=by decide
  obtain ⟨X,xa,xc,w2,hB,hreg⟩:=reg250 (x6:=g.cells) (x7:=k.cells) (v9:=.ptr (some (N,0))) (v11:=.bool true) (v12:=.bool true) hfP hlow hbP few1.1 few1.2 w'
  have hWX:=hW.app X
  have hbX:b≤(P++X).length:=by rw [au]; omega
  have hloop:=l250 (b:=b) (c:=xc) (x5:=f.cells) (x6:=g.cells) (x7:=k.cells) (v11:=.bool true) hWX hbX hSl hB.row (by rw [au]; omega) (fun t ht=>by
    rcases bp.1 ht with ht | ht
    ·exact hf.l.s t ht
    ·exact hf.s.s t ht) (f.locals++f.stack).length 0 true w2 (by omega)
  simp only [bq,dy,cr] at hloop
  have g1:=fun w=>s245 (b:=b) (w:=w) hWX hbX hSl (hfP.app X) (hfP.app X)
  have g2:=fun w=>s245 (b:=b) (w:=w) hWX hbX hSl (hfP.app X) (hgP.app X)
  have g3:=fun w=>s245 (b:=b) (w:=w) hWX hbX hSl (hgP.app X) (hkP.app X)
  have g4:=fun w=>s245 (b:=b) (w:=w) hWX hbX hSl (hfP.app X) (hkP.app X)
  have hself:goesF AbsMake.SM f f=(f.locals++f.stack).all fun t=>placeS AbsMake.SM t t:=by
   unfold goesF; rw [row_self,row_self,List.all_append]
  have htr:=goesF_trans (f:=f) (g:=g) (k:=k)
  rw [← hself] at hloop
  simp only [au,Int.natCast_add] at hloop hreg
  have hll:O.length≤(P++X).length:=by rw [au]; have:=hP.len; omega
  have hlw:O.length≤w2:=hB.w _ hP.len hw'
  generalize goesF AbsMake.SM f f=r1 at *
  generalize goesF AbsMake.SM f g=r2 at *
  generalize goesF AbsMake.SM g k=r3 at *
  generalize goesF AbsMake.SM f k=r4 at *
  rw [hfc] at hreg hloop f1 g1 g2 g4
  rw [hgc] at hreg hloop f2 g2 g3
  rw [hkc] at hreg hloop f3 g3 g4
  cases r2 with
  | false=>simp (disch:=omega) [aw t250,code250,h243,c1,hfc,hgc,hkc,f1,f2,f3,e240,hreg,hloop,g1,g2]
  | true =>
   cases r3 with
   | false=>simp (disch:=omega) [aw t250,code250,h243,c1,hfc,hgc,hkc,f1,f2,f3,e240,hreg,hloop,g1,g2,g3]
   | true =>
    have:=htr rfl rfl
    subst this
    simp (disch:=omega) [aw t250,code250,h243,c1,hfc,hgc,hkc,f1,f2,f3,e240,hreg,hloop,g1,g2,g3,g4]
end
end
end Go.Abs.AbsTyp

namespace Go.Abs
open Go.Abs.AbsDesc
section
variable {os:List AObj} {b w:Nat} {d:Dat} {cs:List AVal}
theorem has_byte (h:Has ⟨os,b,w⟩ (.int .u8) d cs):∃ x:UInt8,cs=byteCell x∧True:=by
 obtain ⟨n,_,rfl,h1,h2⟩:=h.int
 have e1:IntKind.u8.min=0:=rfl
 have e2:IntKind.u8.max=255:=rfl
 rw [e1] at h1
 rw [e2] at h2
 refine ⟨UInt8.ofNat n.toNat,?_,trivial⟩
 unfold byteCell
 have:((UInt8.ofNat n.toNat).toNat:Int)=n:=by
  rw [UInt8.toNat_ofNat']
  have:n.toNat % 2 ^ 8=n.toNat:=Nat.mod_eq_of_lt (by omega)
  rw [this]; omega
 rw [this]
theorem has_bytes (hb:b≤os.length) (h:Has ⟨os,b,w⟩ (.slice (.int .u8)) d cs):∃ (a:Option (Nat × Nat)) (L:List UInt8) (c:Option Nat),cs=[.slice a L.length c]∧Row os 1 byteCell L a∧L.length≤reachB∧under os.length a:=by
 obtain ⟨a,L,c,h1,h2,h3,_,h5,_⟩:=h.row fun d c h=>has_byte h
 exact ⟨a,L,c,h1,h2,h3,under_of h5 hb⟩
end
end Go.Abs

namespace Go.Abs.AbsTyp
variable {os:List AObj} {b w:Nat} {d:Dat} {cs:List AVal}
def shFrame:Sh:=.struct [.slice .str,.slice .str]
theorem has_frame (hb:b≤os.length) (h:Has ⟨os,b,w⟩ shFrame d cs):∃ f:FrU,cs=f.cells∧f.ok os∧f.low os.length:=by
 obtain ⟨l,rfl,h⟩:=h.struct
 obtain ⟨_,_,_,_,rfl,rfl,h2,h⟩:=h.cons
 obtain ⟨_,_,_,_,rfl,rfl,h3,h⟩:=h.cons
 obtain ⟨rfl,rfl⟩:=h.nil
 obtain ⟨la,L,lc,rfl,hL,hLn,hLs,hLu,_⟩:=h2.row fun d c h=>has_strC h
 obtain ⟨sa,S,sc,rfl,hS,hSn,hSs,hSu,_⟩:=h3.row fun d c h=>has_strC h
 exact ⟨⟨L,la,lc,S,sa,sc⟩,rfl,⟨⟨hL,hLn,fun t ht=>big_of (hLs t ht)⟩,⟨hS,hSn,fun t ht=>big_of (hSs t ht)⟩⟩,⟨under_of hLu hb,under_of hSu hb⟩⟩
end Go.Abs.AbsTyp

namespace Go.Abs
def AOper.isLoc (o:AOper):Bool:=match o.op with
 | .lalloc _ | .lbox _ | .ext (.hstore _) _=>true
 | _=>false
def locsOf:Nat→List AOper→List Nat
 | _,[]=>[]
 | i,o :: r=>if o.isLoc then i :: locsOf (i+1) r else locsOf (i+1) r
def ACode.hint:ACode→Hint
 | .skip | .exit _ | .ret | .next _ _=>.leaf
 | .region gs=>.reg (gs.map fun g=>(g.quiet,g.ops.length)) (locsOf 0 (gs.flatMap Seg.ops))
 | .seq (.next _ _) _=>.next
 | .seq a b=>.seq a.hint b.hint
 | .cond (.const (.str [])) .skip .skip=>.stuck
 | .cond _ a b=>.cond a.hint b.hint
 | .block _ c=>.block c.hint
 | .loop c=>.loop c.hint
 | .live l c=>.live l c.hint
 | .after c l=>.after c.hint l
 | .rangeFunc _ g caps _ a b=>.rangeFunc g caps a.hint b.hint
end Go.Abs
