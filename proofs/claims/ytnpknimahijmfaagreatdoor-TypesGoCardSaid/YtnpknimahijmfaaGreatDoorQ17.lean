/-
  Texts joined.
-/
import Derived.Test.YtnpknimahijmfaaGreatDoorQ0
import Derived.Test.YtnpknimahijmfaaGreatDoorQ16
import Derived.Test.YtnpknimahijmfaaGreatDoorQ15
import Derived.Test.YtnpknimahijmfaaGreatDoorQ14
import Derived.Test.YtnpknimahijmfaaGreatDoorQ12
import Derived.Test.YtnpknimahijmfaaGreatDoorQ7
set_option linter.unusedVariables false
set_option linter.unusedSimpArgs false
set_option maxRecDepth 100000
namespace Go.Abs
theorem reach_pre {h:Heap} {n0:Nat}:∀ (fu:Nat) (l acc:List Nat),acc <+: reach h n0 fu l acc
 | 0,l,acc=>by unfold reach; exact List.prefix_refl _
 | _+1,[],acc=>by unfold reach; exact List.prefix_refl _
 | fu+1,i :: r,acc=>by
  unfold reach
  split
  ·exact reach_pre fu r acc
  ·split
   ·exact reach_pre fu r acc
   ·exact (List.prefix_append acc [i]).trans (reach_pre fu _ _)
theorem idxIn_pre {i:Nat}:∀ {k l:List Nat},k <+: l→i ∈ k→idxIn i l=idxIn i k
 | [],_,_,h=>by cases h
 | j :: k,l,hp,h=>by
  obtain ⟨t,rfl⟩:=hp
  rw [b0]
  unfold idxIn
  split
  ·rfl
  ·rename_i hne
   have hm:i ∈ k:=(bt.1 h).resolve_left fun e=>hne e.symm
   rw [idxIn_pre (List.prefix_append k t) hm]
theorem finish_first {h0 h:Heap} {v:AVal} (hv:v.under h0.size=false) (K:List Nat) (hK:K <+: reach h h0.size 1000 v.ids []) :
  (∃ w,finish h0 v h=(v,⟨h.objs,h.base,w⟩)∧(w=min h0.wmin h.wmin∨(w=h0.wmin∧h0.size≤h.wmin))) ∨
  (h0.size≤h.wmin∧∃ f I X,finish h0 v h=(v.ren f,⟨h0.objs++X,h0.base,h0.wmin⟩)∧Moves f I h0.size h.objs (h0.objs++X)∧(∀ j ∈ v.ids,h0.size≤j→I j)∧(∀ j ∈ K,I j∧f j=h0.size+idxIn j K)):=by
 unfold finish
 by_cases hw:h.wmin < h0.size
 ·rw [if_pos hw]; exact .inl ⟨_,rfl,.inl rfl⟩
 ·rw [if_neg hw,hv]
  simp only [am,if_false]
  generalize hk:reach h h0.size 1000 v.ids []=k at hK
  have hge:∀ i ∈ k,h0.size≤i:=by rw [← hk]; exact reach_ge _ _ _ (by simp)
  split
  ·rename_i hok
   refine .inr ⟨by omega,fun i=>if i < h0.size then i else h0.size+idxIn i k,fun i=>i ∈ k,_,rfl,⟨fun i obj hi ho=>?_,fun i obj hi ho j hj hn=>?_,fun i hi=>?_⟩,fun j hj hn=>?_,fun j hj=>?_⟩
   ·have h1:=hge i hi
    obtain ⟨h2,h3⟩:=idxIn_lt hi
    have h4:¬ i < h0.size:=by omega
    simp only [if_neg h4]
    have h5:h0.size=h0.objs.length:=rfl
    rw [h5,ak (by omega),Nat.add_sub_cancel_left,cr,h3]
    have h6:h.get i=some obj:=ho
    simp only [ce,h6,de]
   ·rw [al] at hok
    have h6:h.get i=some obj:=ho
    have:=hok j (gc _ (eg.2 ⟨i,hi,by rw [h6]; exact hj⟩))
    simp only [d9,decide_eq_true_eq] at this
    rcases this with h7 | h7
    ·omega
    ·simpa using h7
   ·show h0.size≤if i < h0.size then i else h0.size+idxIn i k
    rw [if_neg (by omega)]; omega
   ·rw [al] at hok
    have:=hok j (fj _ hj)
    simp only [d9,decide_eq_true_eq] at this
    rcases this with h7 | h7
    ·omega
    ·simpa using h7
   ·have hjk:j ∈ k:=hK.subset hj
    have:=hge j hjk
    refine ⟨hjk,?_⟩
    show (if j < h0.size then j else h0.size+idxIn j k)=_
    rw [if_neg (by omega),idxIn_pre hK hj]
  ·exact .inl ⟨_,rfl,.inr ⟨rfl,by omega⟩⟩
theorem ids_ents {κ ν:Type} {kf:κ→AVal} {vf:ν→AVal} (hk:∀ x,(kf x).ids=[]) (hv:∀ x,(vf x).ids=[]):∀ (A:List (κ × ν)) (i:Nat),((ents kf vf i A).flatMap fun (k,v,_)=>k.ids++v.ids)=[]
 | [],_=>rfl
 | (k,v) :: A,i=>by
  have ih:=ids_ents hk hv A (i+1)
  simp only [ents,co,hk,hv,ci,bz]
  exact ih
theorem ids_mObj {κ ν:Type} {kf:κ→AVal} {vf:ν→AVal} (hk:∀ x,(kf x).ids=[]) (hv:∀ x,(vf x).ids=[]) (A:List (κ × ν)):(mObj kf vf A).ids=[]:=ids_ents hk hv A 0
theorem ren_ents {κ ν:Type} {kf:κ→AVal} {vf:ν→AVal} {f:Nat→Nat} (hk:∀ x,(kf x).ren f=kf x) (hv:∀ x,(vf x).ren f=vf x):∀ (A:List (κ × ν)) (i:Nat),((ents kf vf i A).map fun (k,v,b)=>(k.ren f,v.ren f,b))=ents kf vf i A
 | [],_=>rfl
 | (k,v) :: A,i=>by
  have ih:=ren_ents hk hv A (i+1)
  simp only [ents,bu,hk,hv]
  rw [ih]
theorem ren_mObj {κ ν:Type} {kf:κ→AVal} {vf:ν→AVal} {f:Nat→Nat} (hk:∀ x,(kf x).ren f=kf x) (hv:∀ x,(vf x).ren f=vf x) (A:List (κ × ν)):(mObj kf vf A).ren f=mObj kf vf A:=by
 unfold mObj
 simp only [AObj.ren]
 rw [ren_ents hk hv]
namespace AbsHier
open Go.Abs.AbsDesc
variable {O O':List AObj} {b w N:Nat} {S:List (Str × Str)} {F M:List (Key × Mem)} {V:List (Key × Bool)}
theorem keyF_ids (x:Key):(keyF x).ids=[]:=by obtain ⟨a,b,c⟩:=x; simp [keyF,AVal.ids,AVal.idsL]
theorem memF_ids (x:Mem):(memF x).ids=[]:=by simp [memF,AVal.ids,AVal.idsL]
theorem keyF_ren (f:Nat→Nat) (x:Key):(keyF x).ren f=keyF x:=by obtain ⟨a,b,c⟩:=x; simp [keyF,AVal.ren,AVal.renL]
theorem memF_ren (f:Nat→Nat) (x:Mem):(memF x).ren f=memF x:=by simp [memF,AVal.ren,AVal.renL]
theorem str_ids (x:Str):(AVal.str x).ids=[]:=by simp [AVal.ids]
theorem str_ren (f:Nat→Nat) (x:Str):(AVal.str x).ren f = .str x:=by simp [AVal.ren]
theorem bool_ids (x:Bool):(AVal.bool x).ids=[]:=by simp [AVal.ids]
theorem bool_ren (f:Nat→Nat) (x:Bool):(AVal.bool x).ren f = .bool x:=by simp [AVal.ren]
theorem world_reach (h:World O N S F M V) {n:Nat} (hn:n≤N) (r:List Nat):[N,N+1,N+2,N+3,N+4] <+: reach ⟨O,b,w⟩ n 1000 (N :: r) []:=by
 have h0:(⟨O,b,w⟩:Heap).get N=_:=h.w0
 have h1:(⟨O,b,w⟩:Heap).get (N+1)=_:=h.m1
 have h2:(⟨O,b,w⟩:Heap).get (N+2)=_:=h.m2
 have h3:(⟨O,b,w⟩:Heap).get (N+3)=_:=h.m3
 have h4:(⟨O,b,w⟩:Heap).get (N+4)=_:=h.m4
 have e1:=ids_mObj str_ids str_ids S
 have e2:=ids_mObj keyF_ids memF_ids F
 have e3:=ids_mObj keyF_ids memF_ids M
 have e4:=ids_mObj keyF_ids bool_ids V
 have g0:¬ N < n:=by omega
 have g1:¬ N+1 < n:=by omega
 have g2:¬ N+2 < n:=by omega
 have g3:¬ N+3 < n:=by omega
 have g4:¬ N+4 < n:=by omega
 have s0:reach ⟨O,b,w⟩ n 1000 (N :: r) []=reach ⟨O,b,w⟩ n 995 r [N,N+1,N+2,N+3,N+4]:=by
  rw [reach,if_neg g0,if_neg (by simp),h0]
  simp only [ce,de,AObj.ids,AVal.idsL,AVal.ids,b0,bz]
  rw [reach,if_neg g1,if_neg (by simp),h1]
  simp only [ce,de,e1,bz,b0]
  rw [reach,if_neg g2,if_neg (by simp),h2]
  simp only [ce,de,e2,bz,b0]
  rw [reach,if_neg g3,if_neg (by simp),h3]
  simp only [ce,de,e3,bz,b0]
  rw [reach,if_neg g4,if_neg (by simp),h4]
  simp only [ce,de,e4,bz,b0]
 rw [s0]
 exact reach_pre _ _ _
theorem World.move (h:World O N S F M V) {f:Nat→Nat} {I:Nat→Prop} {n:Nat} (hm:Moves f I n O O') (hf:∀ j ∈ [N,N+1,N+2,N+3,N+4],I j∧f j=n+idxIn j [N,N+1,N+2,N+3,N+4]):World O' n S F M V:=by
 obtain ⟨i0,f0⟩:=hf N (by simp)
 obtain ⟨i1,f1⟩:=hf (N+1) (by simp)
 obtain ⟨i2,f2⟩:=hf (N+2) (by simp)
 obtain ⟨i3,f3⟩:=hf (N+3) (by simp)
 obtain ⟨i4,f4⟩:=hf (N+4) (by simp)
 simp [idxIn] at f0 f1 f2 f3 f4
 have k0:=hm.at' _ _ i0 h.w0
 have k1:=hm.at' _ _ i1 h.m1
 have k2:=hm.at' _ _ i2 h.m2
 have k3:=hm.at' _ _ i3 h.m3
 have k4:=hm.at' _ _ i4 h.m4
 rw [f0] at k0
 rw [f1,ren_mObj (str_ren f) (str_ren f)] at k1
 rw [f2,ren_mObj (keyF_ren f) (memF_ren f)] at k2
 rw [f3,ren_mObj (keyF_ren f) (memF_ren f)] at k3
 rw [f4,ren_mObj (keyF_ren f) (bool_ren f)] at k4
 refine ⟨?_,k1,k2,k3,k4⟩
 simpa [AObj.ren,AVal.renL,AVal.ren,f1,f2,f3,f4] using k0
end AbsHier
namespace AbsTyp
open Go.Abs.AbsDesc Go.Abs.AbsHier
open Go.Abs.AbsOrd hiding T sub
variable {os O:List AObj} {b w:Nat}
theorem allU_over {n m:Nat} {l:List UnitU} (hm:n≤m) (hl:∀ u ∈ l,u.over n):∀ u ∈ allU m l,u.over n:=by
 have hn:over n none:=fun i o e=>by cases e
 have hp:∀ a b,(plainU a b).over n:=fun a b=>⟨hn,hn,fun m hm=>by cases hm⟩
 have hs:(sysU m).over n:=⟨hn,fun i o e=>by cases e; exact hm,fun x hx=>by
  obtain ⟨y,hy,rfl⟩:=d7.1 hx
  exact ⟨hn,hn,hn,fun z hz=>by cases hz⟩⟩
 intro u hu
 unfold allU at hu
 rcases bo.1 hu with hu | hu
 ·unfold builtU at hu
  rcases bo.1 hu with hu | hu
  ·simp only [built3,bt,ep,or_false] at hu
   rcases hu with rfl | rfl | rfl
   ·exact hp _ _
   ·exact hp _ _
   ·exact hs
  ·obtain ⟨y,hy,rfl⟩:=d7.1 hu
   exact hp _ _
 ·exact hl u hu
theorem s240 {tb:List UInt8} {a:Option (Nat × Nat)} {c:Option Nat} (hR:Row O 1 byteCell tb a) (hu:under O.length a) (ht:tb.length≤1000) (hb:b≤O.length) (w:Nat) :
  ∃ (N w':Nat) (P:List AObj) (W:List UnitU) (ra:Option (Nat × Nat)) (F M:List (Key × Mem)),O.length≤N∧Pre O P∧(O.length≤w→O.length≤w')∧AbsHier.World P N AbsMake.SM F M builtV∧Units P W ra∧W.map supE=AbsMake.SM ∧
   xCall T 240 [.slice a tb.length c] ⟨O,b,w⟩=some (.tuple [.ptr (some (N,0)),.slice ra W.length none,.bool true],⟨P,b,w'⟩):=by
 have hG:AbsMake.Good (O++[.cells 2 [.slice a tb.length c,.int .i64 0]]) O.length tb (.slice a tb.length c):=by
  refine ⟨⟨0,by rw [dp]; rfl,dm _,ht⟩,a,c,rfl,(Pre.app O _).row hR,fun i o e=>?_⟩
  have:=hu i o e; omega
 obtain ⟨ua,uc,l,O1,w1,e1,hl,hRl,hok,hul,hS,hK,hw,hw2⟩:=AbsMake.s48o hG (b:=b) hb O.length
 obtain ⟨F,M,hW⟩:=AbsMake.worldS_made hS
 have hlen:=hK.len
 simp only [aw,ew] at hlen
 have hPre:Pre O O1:=fun i o ho=>by
  have:=ai ho
  exact hK.at' i o (by omega) (by rw [ag this]; exact ho)
 have h49:=fun w=>s49 (b:=b) (w:=w) (c:=uc) hRl (fun u hm=>(hok u hm).1) (by rw [hl]; decide) (by omega)
 rw [hl,hW] at h49
 simp only [newV,newO] at h49
 have hWo:=wO_world O1 AbsMake.SM F M builtV
 have hP1:=wO_pre O1 AbsMake.SM F M builtV
 generalize hO2:wO O1 AbsMake.SM F M builtV=O2 at *
 have hl2:O2.length=O1.length+5:=by rw [← hO2]; simp [wO]
 have h107:=fun w=>s107 (O:=O2) (b:=b) (w:=w) (c:=uc) (hP1.row hRl) (by rw [hl]; decide) (fun u hu=>⟨(hok u hu).1.pre hP1,(hok u hu).2.1.cap⟩) (by omega)
 have hwu:worldU (O2.length+1) l=true:=by
  have:=worldS_eq (O2.length+1) l
  rw [hW] at this
  split at this
  ·assumption
  ·cases this
 have hsup:(allU (O2.length+1) l).map supE=AbsMake.SM:=by
  have:=worldS_eq (O2.length+1) l
  rw [hW,hwu] at this
  simp only [if_true,bi,dx] at this
  exact this.1.symm
 rw [hwu,hl] at h107
 simp only [if_true] at h107
 have hU:=worldO_units (O:=O2) (l:=l) (by rw [hl]; decide) (fun u hu=>(hok u hu).1.pre hP1)
 have hlU:(allU (O2.length+1) l).length=13:=by rw [allU_len,hl]
 have hover:∀ u ∈ allU (O2.length+1) l,u.over O.length:=allU_over (by omega) fun u hu=>by
  have:=(hok u hu).2.2
  exact ⟨fun i o e=>by have:=this.f i o e; simp only [aw] at this; omega,fun i o e=>by have:=this.m i o e; simp only [aw] at this; omega,fun m hm=>⟨fun i o e=>by have:=(this.ms m hm).c i o e; simp only [aw] at this; omega,fun i o e=>by have:=(this.ms m hm).t i o e; simp only [aw] at this; omega,fun i o e=>by have:=(this.ms m hm).x i o e; simp only [aw] at this; omega,fun x hx=>⟨fun i o e=>by have:=((this.ms m hm).xs x hx).l i o e; simp only [aw] at this; omega,fun i o e=>by have:=((this.ms m hm).xs x hx).s i o e; simp only [aw] at this; omega⟩⟩⟩
 have hWo2:AbsHier.World (worldO O2 l) O1.length AbsMake.SM F M builtV:=hWo.app _
 have hlw:O2.length < (worldO O2 l).length:=by unfold worldO; simp
 have hPreO:Pre O (worldO O2 l):=(hPre.trans hP1).trans (Pre.app _ _)
 have e48:=eq AbsTyp.sub (eq AbsOrd.sub e1)
 have e49:=fun w=>eq subT (h49 w)
 have e107:=fun w=>eq subT (h107 w)
 generalize hOw:worldO O2 l=Ow at *
 generalize allU (O2.length+1) l=W at *
 have hv:(AVal.tuple [.ptr (some (O1.length,0)),.slice (some (O2.length,0)) 13 none,.bool true]).under (⟨O,b,w⟩:Heap).size=false:=by
  have:¬ O1.length < O.length:=by omega
  simp [AVal.under,AVal.unders,Heap.size,this]
 have hids:(AVal.tuple [.ptr (some (O1.length,0)),.slice (some (O2.length,0)) 13 none,.bool true]).ids=[O1.length,O2.length]:=by simp [AVal.ids,AVal.idsL]
 have hK1:[O1.length,O1.length+1,O1.length+2,O1.length+3,O1.length+4] <+: reach ⟨Ow,b,w1⟩ (⟨O,b,w⟩:Heap).size 1000 (AVal.tuple [.ptr (some (O1.length,0)),.slice (some (O2.length,0)) 13 none,.bool true]).ids []:=by
  rw [hids]
  exact world_reach hWo2 (by show O.length≤_; omega) _
 have hrun:xCall T 240 [.slice a tb.length c] ⟨O,b,w⟩=some (finish ⟨O,b,w⟩ (.tuple [.ptr (some (O1.length,0)),.slice (some (O2.length,0)) 13 none,.bool true]) ⟨Ow,b,w1⟩):=by
  simp (disch:=omega) [-getElem?_pos,-getElem?_neg,-List.all_eq_true,gz,gs,nltT,nltF,iltT,iltF,ileT,nleT,df,-finish,av t240,code240,e48,e49,e107,hlU]
 rw [hrun]
 rcases finish_first (h:=⟨Ow,b,w1⟩) hv _ hK1 with ⟨w',h1,h2⟩ | ⟨h1,f,I,X,h2,h3,h4,h5⟩
 ·refine ⟨O1.length,w',Ow,W,some (O2.length,0),F,M,by omega,hPreO,fun hh=>?_,hWo2,hU,hsup,by rw [h1,hlU]⟩
  rcases h2 with h2 | ⟨h2,_⟩
  ·simp only at h2; omega
  ·simp only at h2; omega
 ·have hin:inI I (some (O2.length,0)):=fun i o e=>by
   simp only [bi,dx] at e
   rw [← e.1]; exact h4 _ (by rw [hids]; simp) (by show O.length≤_; omega)
  have hR2:=h3.row (F':=UnitU.cells) (g:=UnitU.ren f) hU.r hin fun u=>ren_unitU u
  have hf0:f O1.length=O.length:=by
   have:=(h5 O1.length (by simp)).2
   simpa [idxIn,Heap.size] using this
  refine ⟨O.length,w,O++X,W.map (UnitU.ren f),renA f (some (O2.length,0)),F,M,aj _,Pre.app _ _,id,hWo2.move h3 h5,⟨hR2,by rw [fh]; exact hU.n,fun u hm=>?_⟩,?_,?_⟩
  ·obtain ⟨v,hv,rfl⟩:=d7.1 hm
   exact (hU.ok v hv).move h3 (hover v hv) (h3.ids hU.r hin hv)
  ·rw [List.map_map,← hsup]
   rfl
  ·rw [h2,fh,hlU]
   simp [AVal.ren,AVal.renL,hf0,renA]
end AbsTyp
end Go.Abs

namespace Go.Abs.AbsTyp
open Go.Abs.AbsDesc Go.Abs.AbsHier
open Go.Abs.AbsOrd hiding T sub
variable {os O:List AObj} {b w:Nat} {N:Nat} {S:List (Str × Str)} {F M:List (Key × Mem)} {V:List (Key × Bool)}
section
variable {f:FrU}
theorem s243 {h:Heap}:xCall T 243 [] h=some (.bool true,h):=closed_run (f:=code243) t243 rfl 60 rfl rfl (h':=⟨[],0,0⟩) (by kernel_rfl) h
end
end Go.Abs.AbsTyp

namespace Go.Abs
open Go.Abs.AbsDesc
section
variable {os:List AObj} {b w:Nat} {d:Dat} {cs:List AVal}
theorem has_byte (h:Has ⟨os,b,w⟩ (.int .u8) d cs):∃ x:UInt8,cs=byteCell x∧True:=by
 obtain ⟨n,_,rfl,h1,h2⟩:=h.int
 have e1:IntKind.u8.min=0:=rfl
 have e2:IntKind.u8.max=255:=rfl
 rw [e1] at h1
 rw [e2] at h2
 refine ⟨UInt8.ofNat n.toNat,?_,trivial⟩
 unfold byteCell
 have:((UInt8.ofNat n.toNat).toNat:Int)=n:=by
  rw [UInt8.toNat_ofNat']
  have:n.toNat % 2 ^ 8=n.toNat:=Nat.mod_eq_of_lt (by omega)
  rw [this]; omega
 rw [this]
theorem has_bytes (hb:b≤os.length) (h:Has ⟨os,b,w⟩ (.slice (.int .u8)) d cs):∃ (a:Option (Nat × Nat)) (L:List UInt8) (c:Option Nat),cs=[.slice a L.length c]∧Row os 1 byteCell L a∧L.length≤reachB∧under os.length a:=by
 obtain ⟨a,L,c,h1,h2,h3,_,h5,_⟩:=h.row fun d c h=>has_byte h
 exact ⟨a,L,c,h1,h2,h3,under_of h5 hb⟩
end
end Go.Abs

namespace Go.Abs.AbsTyp
variable {os:List AObj} {b w:Nat} {d:Dat} {cs:List AVal}
def shFrame:Sh:=.struct [.slice .str,.slice .str]
theorem has_frame (hb:b≤os.length) (h:Has ⟨os,b,w⟩ shFrame d cs):∃ f:FrU,cs=f.cells∧f.ok os∧f.low os.length:=by
 obtain ⟨l,rfl,h⟩:=h.struct
 obtain ⟨_,_,_,_,rfl,rfl,h2,h⟩:=h.cons
 obtain ⟨_,_,_,_,rfl,rfl,h3,h⟩:=h.cons
 obtain ⟨rfl,rfl⟩:=h.nil
 obtain ⟨la,L,lc,rfl,hL,hLn,hLs,hLu,_⟩:=h2.row fun d c h=>has_strC h
 obtain ⟨sa,S,sc,rfl,hS,hSn,hSs,hSu,_⟩:=h3.row fun d c h=>has_strC h
 exact ⟨⟨L,la,lc,S,sa,sc⟩,rfl,⟨⟨hL,hLn,fun t ht=>big_of (hLs t ht)⟩,⟨hS,hSn,fun t ht=>big_of (hSs t ht)⟩⟩,⟨under_of hLu hb,under_of hSu hb⟩⟩
end Go.Abs.AbsTyp

namespace Go.Abs.AbsTyp
open Go.Abs.AbsDesc Go.Abs.AbsHier
open Go.Abs.AbsOrd hiding T sub
variable {os O:List AObj} {b w:Nat} {N:Nat} {S:List (Str × Str)} {F M:List (Key × Mem)} {V:List (Key × Bool)}
theorem s35 {s:List UInt8} (hn:s.length≤9223372036854775807):xCall T 35 [.str s] ⟨os,b,w⟩=some (elemV s,⟨os,b,w⟩):=by
 cases s with
 | nil=>simp [dj T t35,code35,elemV,begins]
 | cons x r =>
  have h1:(1:Int)≤(r.length:Int)+1:=by omega
  by_cases e:x=91
  ·subst e
   simp [dj T t35,code35,elemV,begins,h1]
  ·have e':¬ ((x.toNat:Int)=91):=fun h=>e (UInt8.toNat_inj.1 (show x.toNat=91 by omega))
   simp [dj T t35,code35,elemV,begins,h1,e,e']
theorem s31 {s:List UInt8} (hn:s.length≤9223372036854775807):xCall T 31 [.str s] ⟨os,b,w⟩=some (.bool (isRef s),⟨os,b,w⟩):=by
 cases s with
 | nil=>simp [dj T t31,code31,isRef,begins]
 | cons x r =>
  have h1:(1:Int)≤(r.length:Int)+1:=by omega
  have h0:(0:Int) < (r.length:Int)+1:=by omega
  have e1:((x.toNat:Int)=76)=(x=76):=jw x 76 (by omega)
  have e2:((x.toNat:Int)=91)=(x=91):=jw x 91 (by omega)
  by_cases c1:x=76 <;> by_cases c2:x=91
  ·subst c1; cases c2
  all_goals simp [dj T t31,code31,isRef,begins,h0,h1,e1,e2,c1,c2]
def isU (W:List UnitU) (c d:Str):Bool:=(lineU W (W.length+1) c).any fun u=>decide (u.name=d)
section
attribute [-simp] getElem?_pos getElem?_neg List.all_eq_true
attribute [local simp] gz gs nltT nltF iltT iltF ileT nleT df
theorem l279 {L:List UnitU} {a:Option (Nat × Nat)} {c:Option Nat} {d:Str} (hR:Row O 4 UnitU.cells L a) (hl:L.length≤1000000):∀ (j i:Nat) (w:Nat),i+j=L.length→∀ (k:AExit→St→Option (AVal × Heap)),
  xK T (.loop code279L0) ⟨[(2,.val (.str d)),(11,.val (.slice a L.length c)),(12,.val (.int .i64 L.length)),(13,.val (.int .i64 i))],⟨O,b,w⟩⟩ (k:=⟨k⟩) =
  if (L.drop i).any (fun u=>decide (u.name=d)) then k .ret ⟨[(6,.val (.bool true))],⟨O,b,w⟩⟩ else k (.exit 0) ⟨[],⟨O,b,w⟩⟩
 | 0,i,w,hi,k=>by
  rw [cf,bg (by omega)]
  simp (disch:=omega) [code279L0]
 | j+1,i,w,hi,k=>by
  obtain ⟨u,hu⟩:∃ u,L[i]? = some u:=⟨_,ah (by omega)⟩
  obtain ⟨p,o,cs,ha,hpp,hpl,hcs,ht⟩:=ig hR hu
  have hd:L.drop i=u :: L.drop (i+1):=gl hu
  have ih:=l279 (c:=c) (d:=d) hR hl j (i+1) w (by omega) k
  have e2:((i+1:Nat):Int)=(i:Int)+1:=by omega
  rw [e2] at ih
  subst ha
  unfold UnitU.cells at ht
  rw [cf,hd,List.any_cons]
  generalize ACode.loop code279L0=LL at ih ⊢
  by_cases e:u.name=d
  ·rw [decide_eq_true e,Bool.true_or]
   simp (disch:=omega) [code279L0,hpp,ht,e]
  ·rw [decide_eq_false e,Bool.false_or]
   simp (disch:=omega) [code279L0,hpp,ht,e,ih]
theorem s279 {W:List UnitU} {ra:Option (Nat × Nat)} (hU:Units O W ra) (hb:b≤O.length) {c d:Str} {rc:Option Nat} (w:Nat) :
  xCall T 279 [.slice ra W.length rc,.str c,.str d] ⟨O,b,w⟩=some (.bool (isU W c d),⟨O,b,w⟩):=by
 have h112:=fun w=>eq subT (s112 (b:=b) (w:=w) (c:=rc) hU.r hU.n hU.low hb (n:=c))
 have hlen:=goL_len W (W.length+1) (findU W c)
 have hn:=hU.n
 unfold isU
 have hlen:(lineU W (W.length+1) c).length≤W.length+1:=hlen
 generalize lineU W (W.length+1) c=L at *
 by_cases hL:L=[]
 ·subst hL
  have h1:=fun w=>l279 (O:=O) (b:=b) (a:=none) (c:=some 0) (d:=d) (L:=[]) ⟨fun h=>absurd rfl h⟩ (by simp) 0 0 w (by simp)
  simp only [bl,br,dr,List.any_nil,am,if_false] at h1
  simp only [rowV,rowO,if_true] at h112
  simp (disch:=omega) [av t279,code279,h112,h1]
 ·have hRow:Row (O++[.cells 4 (L.flatMap UnitU.cells)]) 4 UnitU.cells L (some (O.length,0)):=Row.mk0 (fun _=>rfl) (by rw [dp]; rfl)
  have h1:=fun w=>l279 (b:=b) (c:=none) (d:=d) hRow (by omega) L.length 0 w (by omega)
  simp only [bl,dr] at h1
  simp only [rowV,rowO,hL,if_false] at h112
  cases e:L.any (fun u=>decide (u.name=d)) with
  | true=>rw [e] at h1; simp (disch:=omega) [av t279,code279,h112,h1]
  | false=>rw [e] at h1; simp (disch:=omega) [av t279,code279,h112,h1]
end
theorem lineSM:∀ c,lineS AbsMake.SM 14 c=lineS AbsMake.SM 13 c:=by
 intro c
 have h:∀ k,getE AbsMake.SM c=none→lineS AbsMake.SM k c=[]:=fun k hk=>by
  cases k with
  | zero=>rfl
  | succ k=>simp only [lineS,hk]
 cases hg:getE AbsMake.SM c with
 | none=>rw [h _ hg,h _ hg]
 | some d =>
  have hm:c ∈ AbsMake.namesM:=AbsMake.getE_names (by rw [hg]; simp)
  have:∀ c ∈ AbsMake.namesM,lineS AbsMake.SM 14 c=lineS AbsMake.SM 13 c:=by decide
  exact this c hm
theorem isU_eq {W:List UnitU} (hW:W.map supE=AbsMake.SM) (c d:Str):isU W c d=isS AbsMake.SM c d:=by
 have hl:W.length=13:=by
  have:=congrArg List.length hW
  rw [fh] at this
  exact this
 unfold isU isS
 rw [show AbsMake.SM.length=13 from rfl,← lineSM,← hW,lineS_eq,List.any_map,hl]
 rfl
section
attribute [-simp] getElem?_pos getElem?_neg List.all_eq_true sget
attribute [local simp] gz gs nltT nltF iltT iltF ileT nleT df ir iu iw
set_option maxHeartbeats 2000000 in
theorem s268 {W:List UnitU} {ra:Option (Nat × Nat)} {rc:Option Nat} (hU:Units O W ra) (hW:W.map supE=AbsMake.SM) (hb:b≤O.length):∀ (s t:Str) (w:Nat),s.length≤9223372036854775807→t.length≤9223372036854775807 →
  xCall T 268 [.slice ra W.length rc,.str s,.str t] ⟨O,b,w⟩=some (.bool (goesS AbsMake.SM s t),⟨O,b,w⟩)
 | [],t,w,hs,ht=>by
  have h159a:=fun w=>eq subT (s159 (b:=b) (w:=w) (c:=rc) hU.r hU.len hU.low (t:=[]) (by simp))
  have h159:=fun w=>eq subT (s159 (b:=b) (w:=w) (c:=rc) hU.r hU.len hU.low ht)
  rw [← thereS_eq,hW] at h159 h159a
  have h33:=fun w=>eq subT (s33 (os:=O) (b:=b) (w:=w) ht)
  have h33a:=fun w=>eq subT (s33 (os:=O) (b:=b) (w:=w) (s:=[]) (by simp))
  have h35:=fun w=>s35 (os:=O) (b:=b) (w:=w) ht
  have h35a:=fun w=>s35 (os:=O) (b:=b) (w:=w) (s:=[]) (by simp)
  rw [classV_eq] at h33 h33a
  have hc0:classOf []=none:=rfl
  rw [hc0] at h33a
  simp only [elemV] at h35 h35a
  have hb0:begins 91 []=false:=rfl
  simp only [hb0,am,if_false,jh,ji] at h35a h33a
  unfold goesS
  rcases ap (thereS AbsMake.SM []) with c1 | c1
  ·rcases ap (thereS AbsMake.SM t) with c2 | c2
   ·by_cases c3:t=[]
    ·subst c3
     simp (disch:=omega) [av t268,code268,h159a,c1,h33a,h35a]
    ·have c3':¬ []=t:=fun e=>c3 e.symm
     simp (disch:=omega) [av t268,code268,h159a,h159,c1,c2,h33a,h35a,h33,h35,c3,c3']
   ·simp (disch:=omega) [av t268,code268,h159a,h159,c1,c2,h33a,h33]
  ·simp (disch:=omega) [av t268,code268,h159a,c1,h33a,h33]
 | x :: r,t,w,hs,ht=>by
  have hr:r.length≤9223372036854775807:=by simp only [a8] at hs; omega
  have htt:t.tail.length≤9223372036854775807:=by rw [List.length_tail]; omega
  have ih:=fun w=>s268 (rc:=rc) hU hW hb r t.tail w hr htt
  have h159a:=fun w=>eq subT (s159 (b:=b) (w:=w) (c:=rc) hU.r hU.len hU.low hs)
  have h159:=fun w=>eq subT (s159 (b:=b) (w:=w) (c:=rc) hU.r hU.len hU.low ht)
  rw [← thereS_eq,hW] at h159 h159a
  have h33:=fun w=>eq subT (s33 (os:=O) (b:=b) (w:=w) ht)
  have h33a:=fun w=>eq subT (s33 (os:=O) (b:=b) (w:=w) hs)
  have h35:=fun w=>s35 (os:=O) (b:=b) (w:=w) ht
  have h35a:=fun w=>s35 (os:=O) (b:=b) (w:=w) hs
  have h31t:=fun w=>s31 (os:=O) (b:=b) (w:=w) ht
  have h31r:=fun w=>s31 (os:=O) (b:=b) (w:=w) hr
  have h31tt:=fun w=>s31 (os:=O) (b:=b) (w:=w) htt
  have h279:=fun w a c=>s279 (w:=w) (rc:=rc) hU hb (c:=a) (d:=c)
  simp only [isU_eq hW] at h279
  rw [classV_eq] at h33 h33a
  simp only [elemV] at h35 h35a
  have hbx:begins 91 (x :: r)=decide (x=91):=rfl
  rw [hbx] at h35a
  simp only [List.tail_cons] at h35a
  rw [av t268]
  unfold goesS
  have hA:=fun c (e:classOf (x :: r)=some c)=>(kw e).1
  have hB:=fun c (e:classOf t=some c)=>(kw e).1
  rw [hbx] at hA
  generalize hS0:x :: r=s at *
  rcases ap (thereS AbsMake.SM s) with c1 | c1
  case inr=>simp (disch:=omega) [code268,h159a,c1,h33,h33a]
  rcases ap (thereS AbsMake.SM t) with c2 | c2
  case inr=>simp (disch:=omega) [code268,h159a,h159,c1,c2,h33,h33a]
  by_cases c3:s=t
  ·subst c3
   simp (disch:=omega) [code268,h159,c1,h33,h35a]
  by_cases c4:s=[78]
  ·have hc:classOf s=none:=by rw [c4]; rfl
   have c5:¬ x=91:=by rw [c4] at hS0; simp only [iy] at hS0; rw [hS0.1]; decide
   rw [hc] at h33a
   have c3':¬ [78]=t:=by rw [← c4]; exact c3
   subst c4
   simp (disch:=omega) [code268,h159a,h159,c1,c2,c3',h33a,h33,h35a,h35,c5,h31t]
  cases hc:classOf s with
  | some a =>
   have c5:¬ x=91:=by have:=hA a hc; simpa using this
   rw [hc] at h33a
   cases hd:classOf t with
   | some c =>
    rw [hd] at h33
    have c6:=hB c hd
    simp (disch:=omega) [code268,h159a,h159,c1,c2,c3,c4,h33a,h33,h35a,h35,c5,c6,h279]
   | none =>
    rw [hd] at h33
    simp (disch:=omega) [code268,h159a,h159,c1,c2,c3,c4,h33a,h33,h35a,h35,c5,h279]
  | none =>
   rw [hc] at h33a
   cases hd:classOf t with
   | some c =>
    rw [hd] at h33
    have c6:=hB c hd
    by_cases c5:x=91
    ·simp (disch:=omega) [code268,h159a,h159,c1,c2,c3,c4,h33a,h33,h35a,h35,c5,c6,h279,objectT]
     congr
    ·simp (disch:=omega) [code268,h159a,h159,c1,c2,c3,c4,h33a,h33,h35a,h35,c5,c6,h279,objectT]
   | none =>
    rw [hd] at h33
    by_cases c5:x=91
    ·rcases ap (begins 91 t) with c6 | c6
     ·rcases ap (isRef r) with c7 | c7
      ·rcases ap (isRef t.tail) with c8 | c8
       ·simp (disch:=omega) [code268,h159a,h159,c1,c2,c3,c4,h33a,h33,h35a,h35,c5,c6,c7,c8,h31r,h31tt,ih]
       ·simp (disch:=omega) [code268,h159a,h159,c1,c2,c3,c4,h33a,h33,h35a,h35,c5,c6,c7,c8,h31r,h31tt,ih]
      ·simp (disch:=omega) [code268,h159a,h159,c1,c2,c3,c4,h33a,h33,h35a,h35,c5,c6,c7,h31r,h31tt,ih]
     ·simp (disch:=omega) [code268,h159a,h159,c1,c2,c3,c4,h33a,h33,h35a,h35,c5,c6,h31r,h31tt,ih]
    ·simp (disch:=omega) [code268,h159a,h159,c1,c2,c3,c4,h33a,h33,h35a,h35,c5,h31r,h31tt,ih]
end
section
attribute [-simp] getElem?_pos getElem?_neg List.all_eq_true
attribute [local simp] gz gs nltT nltF iltT iltF ileT nleT df
theorem s269 {h:Heap} {t:Str}:xCall T 269 [.str t] h=some (.bool (plainS t),h):=by
 obtain ⟨os,b,w⟩:=h
 unfold plainS
 by_cases c1:t=[84]
 ·simp (disch:=omega) [av t269,code269,c1]
 ·by_cases c2:t=[73]
  ·simp (disch:=omega) [av t269,code269,c1,c2]
  ·by_cases c3:t=[74]
   ·simp (disch:=omega) [av t269,code269,c1,c2,c3]
   ·simp (disch:=omega) [av t269,code269,c1,c2,c3]
theorem s248 {W:List UnitU} {ra:Option (Nat × Nat)} {rc:Option Nat} (hU:Units O W ra) (hW:W.map supE=AbsMake.SM) (hb:b≤O.length) (s t:Str) (w:Nat) (hs:s.length≤9223372036854775807) (ht:t.length≤9223372036854775807) :
  xCall T 248 [.slice ra W.length rc,.str s,.str t] ⟨O,b,w⟩=some (.bool (placeS AbsMake.SM s t),⟨O,b,w⟩):=by
 have h268:=fun w=>s268 (b:=b) (rc:=rc) hU hW hb s t w hs ht
 have h1:=fun h=>s269 (h:=h) (t:=s)
 have h2:=fun h=>s269 (h:=h) (t:=t)
 unfold placeS
 by_cases c1:t=[84]
 ·simp (disch:=omega) [av t248,code248,c1]
 ·generalize plainS s=p at *
  generalize plainS t=q at *
  cases p with
  | true=>simp (disch:=omega) [av t248,code248,c1,h1,h2]
  | false=>cases q <;> simp (disch:=omega) [av t248,code248,c1,h1,h2,h268]
theorem l272 {W:List UnitU} {ra:Option (Nat × Nat)} {rc:Option Nat} {L R:List Str} {a c:Option (Nat × Nat)} {ac cc:Option Nat} (hU:Units O W ra) (hW:W.map supE=AbsMake.SM) (hb:b≤O.length) (hL:StrRow O L a) (hR:StrRow O R c) (hlr:L.length=R.length):∀ (j i:Nat) (w:Nat),i+j=L.length→∀ (k:AExit→St→Option (AVal × Heap)),
  xK T (.loop code272L0) ⟨[(0,.val (.slice ra W.length rc)),(1,.val (.slice a L.length ac)),(2,.val (.slice c R.length cc)),(14,.val (.int .i64 L.length)),(15,.val (.int .i64 i))],⟨O,b,w⟩⟩ (k:=⟨k⟩) =
  if rowS AbsMake.SM (L.drop i) (R.drop i) then k (.exit 0) ⟨[],⟨O,b,w⟩⟩ else k .ret ⟨[(6,.val (.bool false))],⟨O,b,w⟩⟩
 | 0,i,w,hi,k=>by
  rw [cf,bg (by omega),bg (by omega)]
  simp (disch:=omega) [code272L0,rowS]
 | j+1,i,w,hi,k=>by
  have hn:L.length≤140737488351232:=hL.n
  obtain ⟨x,hx⟩:∃ x,L[i]? = some x:=⟨_,ah (by omega)⟩
  obtain ⟨y,hy⟩:∃ y,R[i]? = some y:=⟨_,ah (by omega)⟩
  obtain ⟨p,o,cs,ha,hpp,ht⟩:=str_at hL.r hx
  obtain ⟨p',o',cs',ha',hpp',ht'⟩:=str_at hR.r hy
  have hdx:L.drop i=x :: L.drop (i+1):=gl hx
  have hdy:R.drop i=y :: R.drop (i+1):=gl hy
  have ih:=l272 (rc:=rc) (ac:=ac) (cc:=cc) hU hW hb hL hR hlr j (i+1) w (by omega) k
  have e2:((i+1:Nat):Int)=(i:Int)+1:=by omega
  rw [e2] at ih
  have h248:=fun w=>s248 (b:=b) (rc:=rc) hU hW hb x y w (hL.s x (az hx)) (hR.s y (az hy))
  subst ha ha'
  rw [cf,hdx,hdy]
  generalize ACode.loop code272L0=LL at ih ⊢
  cases e:placeS AbsMake.SM x y with
  | true =>
   simp only [rowS,e,cz]
   rw [e] at h248
   simp (disch:=omega) [code272L0,hpp,hpp',ht,ht',h248,ih]
  | false =>
   simp only [rowS,e,dk]
   rw [e] at h248
   simp (disch:=omega) [code272L0,hpp,hpp',ht,ht',h248]
theorem s272 {W:List UnitU} {ra:Option (Nat × Nat)} {rc:Option Nat} {L R:List Str} {a c:Option (Nat × Nat)} {ac cc:Option Nat} (hU:Units O W ra) (hW:W.map supE=AbsMake.SM) (hb:b≤O.length) (hL:StrRow O L a) (hR:StrRow O R c) (w:Nat) :
  xCall T 272 [.slice ra W.length rc,.slice a L.length ac,.slice c R.length cc] ⟨O,b,w⟩=some (.bool (rowS AbsMake.SM L R),⟨O,b,w⟩):=by
 have hn:L.length≤140737488351232:=hL.n
 by_cases e:L.length=R.length
 ·have h1:=fun w=>l272 (b:=b) (rc:=rc) (ac:=ac) (cc:=cc) hU hW hb hL hR e L.length 0 w (by omega)
  simp only [bl,dr] at h1
  have en:((L.length:Int)=(R.length:Int))=True:=eq_true (by omega)
  cases er:rowS AbsMake.SM L R with
  | true=>rw [er] at h1; simp (disch:=omega) [av t272,code272,en,h1]
  | false=>rw [er] at h1; simp (disch:=omega) [av t272,code272,en,h1]
 ·have en:((L.length:Int)=(R.length:Int))=False:=eq_false (by omega)
  have er:rowS AbsMake.SM L R=false:=by
   rcases ap (rowS AbsMake.SM L R) with h | h
   ·exact absurd (row_len h) e
   ·exact h
  rw [er]
  simp (disch:=omega) [av t272,code272,en]
theorem s246 {W:List UnitU} {ra:Option (Nat × Nat)} {rc:Option Nat} (hU:Units O W ra) (hW:W.map supE=AbsMake.SM) (hb:b≤O.length) {f g:FrU} (hf:f.ok O) (hg:g.ok O) (w:Nat) :
  xCall T 246 [.slice ra W.length rc,.agg f.cells,.agg g.cells] ⟨O,b,w⟩=some (.bool (goesF AbsMake.SM f g),⟨O,b,w⟩):=by
 have hfc:f.cells=[.slice f.la f.locals.length f.lc,.slice f.sa f.stack.length f.sc]:=rfl
 have hgc:g.cells=[.slice g.la g.locals.length g.lc,.slice g.sa g.stack.length g.sc]:=rfl
 have h1:=fun w=>s272 (b:=b) (w:=w) (rc:=rc) (ac:=f.lc) (cc:=g.lc) hU hW hb hf.l hg.l
 have h2:=fun w=>s272 (b:=b) (w:=w) (rc:=rc) (ac:=f.sc) (cc:=g.sc) hU hW hb hf.s hg.s
 unfold goesF
 generalize rowS AbsMake.SM f.locals g.locals=r1 at *
 generalize rowS AbsMake.SM f.stack g.stack=r2 at *
 cases r1 with
 | false=>simp (disch:=omega) [av t246,code246,hfc,hgc,h1]
 | true=>simp (disch:=omega) [av t246,code246,hfc,hgc,h1,h2]
end
end Go.Abs.AbsTyp

namespace Go.Abs.AbsTyp
open Go.Abs.AbsDesc Go.Abs.AbsHier
open Go.Abs.AbsOrd hiding T sub
variable {os O:List AObj} {b w:Nat}
theorem FrU.ok.pre {P:List AObj} {f:FrU} (h:f.ok O) (hp:Pre O P):f.ok P:=⟨⟨hp.row h.l.r,h.l.n,h.l.s⟩,⟨hp.row h.s.r,h.s.n,h.s.s⟩⟩
section
attribute [-simp] getElem?_pos getElem?_neg List.all_eq_true sget
attribute [local simp] gz gs nltT nltF iltT iltF ileT nleT df ir iu iw
set_option maxHeartbeats 1200000 in
theorem s249 {tb:List UInt8} {a:Option (Nat × Nat)} {c:Option Nat} {f g:FrU} (hR:Row O 1 byteCell tb a) (hu:under O.length a) (hn:tb.length≤reachB) (hb:b≤O.length) (hf:f.ok O) (hfl:f.low O.length) (hg:g.ok O) (hgl:g.low O.length) :
  xCall T 249 [.slice a tb.length c,.agg f.cells,.agg g.cells] ⟨O,b,w⟩=some (.bool true,⟨O,b,w⟩):=by
 have hrb:reachB=140737488351232:=rfl
 have hfc:f.cells=[.slice f.la f.locals.length f.lc,.slice f.sa f.stack.length f.sc]:=rfl
 have hgc:g.cells=[.slice g.la g.locals.length g.lc,.slice g.sa g.stack.length g.sc]:=rfl
 have h243:=fun h=>s243 (h:=h)
 have f1:=fun w=>s242 hf hfl hb w
 have f2:=fun w=>s242 hg hgl hb w
 by_cases c1:(100:Int) < tb.length
 ·simp (disch:=omega) [av t249,code249,h243,c1]
 ·cases q1:fewF f with
  | false=>rw [q1,hfc] at f1; simp (disch:=omega) [av t249,code249,h243,c1,hfc,f1]
  | true=>?_
  cases q2:fewF g with
  | false=>rw [q1,hfc] at f1; rw [q2,hgc] at f2; simp (disch:=omega) [av t249,code249,h243,c1,hfc,hgc,f1,f2]
  | true=>?_
  rw [q1] at f1
  rw [q2] at f2
  obtain ⟨N,w',P,W,ra,F,M,hN,hP,hw',hW,hU,hsup,e240⟩:=s240 (c:=c) hR hu (by omega) hb O.length
  have hw':=hw' (aj _)
  have hbP:b≤P.length:=by have:=hP.len; omega
  have hfP:=hf.pre hP
  have hgP:=hg.pre hP
  have hSl:AbsMake.SM.length≤9223372036854775807:=by decide
  have hPl:=hP.len
  have g1:=fun w=>s245 (b:=b) (w:=w) hW hbP hSl hfP hgP
  have g2:=fun w=>s246 (b:=b) (rc:=none) hU hsup hbP hfP hgP w
  have p1:=fun s t w hs ht=>s247 (b:=b) hW hbP hSl s t w hs ht
  have p2:=fun s t w hs ht=>s248 (b:=b) (rc:=none) hU hsup hbP s t w hs ht
  generalize goesF AbsMake.SM f g=r1 at *
  have hla:∀ x y,f.locals[0]? = some x→g.locals[0]? = some y→∃ p o cs p' o' cs',f.la=some (p,o)∧P[p]? = some (.cells 1 cs)∧cs[o]? = some (.str x)∧g.la=some (p',o')∧P[p']? = some (.cells 1 cs')∧cs'[o']? = some (.str y):=fun x y hx hy=>by
   obtain ⟨p,o,cs,k1,k2,k3⟩:=str_at hfP.l.r hx
   obtain ⟨p',o',cs',k4,k5,k6⟩:=str_at hgP.l.r hy
   exact ⟨p,o,cs,p',o',cs',k1,k2,k3,k4,k5,k6⟩
  by_cases c2:f.locals.length=0
  ·rw [hfc] at f1 g1 g2
   rw [hgc] at f2 g1 g2
   rw [c2] at f1 g1 g2
   simp (disch:=omega) [av t249,code249,h243,c1,hfc,hgc,f1,f2,e240,g1,g2,c2]
  ·by_cases c3:g.locals.length=0
   ·have c2':(0:Int) < f.locals.length:=by omega
    rw [hfc] at f1 g1 g2
    rw [hgc] at f2 g1 g2
    rw [c3] at f2 g1 g2
    simp (disch:=omega) [av t249,code249,h243,c1,hfc,hgc,f1,f2,e240,g1,g2,c2',c3]
   ·have c2':(0:Int) < f.locals.length:=by omega
    have c3':(0:Int) < g.locals.length:=by omega
    obtain ⟨x,hx⟩:∃ x,f.locals[0]? = some x:=⟨_,ah (by omega)⟩
    obtain ⟨y,hy⟩:∃ y,g.locals[0]? = some y:=⟨_,ah (by omega)⟩
    obtain ⟨p,o,cs,p',o',cs',k1,k2,k3,k4,k5,k6⟩:=hla x y hx hy
    have p1:=fun w=>p1 x y w (hf.l.s x (az hx)) (hg.l.s y (az hy))
    have p2:=fun w=>p2 x y w (hf.l.s x (az hx)) (hg.l.s y (az hy))
    generalize placeS AbsMake.SM x y=r2 at *
    rw [hfc,k1] at f1 g1 g2
    rw [hgc,k4] at f2 g1 g2
    simp (disch:=omega) [av t249,code249,h243,c1,hfc,hgc,k1,k4,f1,f2,e240,g1,g2,c2',c3',k2,k3,k5,k6,p1,p2]
end
end Go.Abs.AbsTyp

namespace Go.Abs
def AOper.isLoc (o:AOper):Bool:=match o.op with
 | .lalloc _ | .lbox _ | .ext (.hstore _) _=>true
 | _=>false
def locsOf:Nat→List AOper→List Nat
 | _,[]=>[]
 | i,o :: r=>if o.isLoc then i :: locsOf (i+1) r else locsOf (i+1) r
def ACode.hint:ACode→Hint
 | .skip | .exit _ | .ret | .next _ _=>.leaf
 | .region gs=>.reg (gs.map fun g=>(g.quiet,g.ops.length)) (locsOf 0 (gs.flatMap Seg.ops))
 | .seq (.next _ _) _=>.next
 | .seq a b=>.seq a.hint b.hint
 | .cond (.const (.str [])) .skip .skip=>.stuck
 | .cond _ a b=>.cond a.hint b.hint
 | .block _ c=>.block c.hint
 | .loop c=>.loop c.hint
 | .live l c=>.live l c.hint
 | .after c l=>.after c.hint l
 | .rangeFunc _ g caps _ a b=>.rangeFunc g caps a.hint b.hint
theorem ow {E:Env} {T:Nat→Option AFunc} {f g:Nat} {fn:Func} {c:AFunc} {b:Bool} {hint:Hint} (h3:cFunc E b hint fn=some c) (h1:E.P.funcs[f]? = some fn) (h2:T g=some c) (h4:RndOK E c.body.rounds):FnOK E T f g:=.inr (.inl ⟨_,_,_,_,h1,h2,h3,h4⟩)
end Go.Abs
