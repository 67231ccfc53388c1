/-
  Texts joined.
-/
import Derived.Test.YtnpknimahijmfaaGreatDoorQ0
import Derived.Test.YtnpknimahijmfaaGreatDoorQ13
import Derived.Test.YtnpknimahijmfaaGreatDoorQ10
set_option linter.unusedVariables false
set_option linter.unusedSimpArgs false
set_option maxRecDepth 100000
namespace Go.Abs.AbsHier
open Go.Abs.AbsDesc
variable {os O:List AObj} {b w:Nat} {N:Nat}
def sysT:Str:=[115,121,115]
def throwT:Str:=[84,104,114,111,119,97,98,108,101]
def faultsL:List Str:=[[78,117,108,108,70,97,117,108,116],[66,111,117,110,100,115,70,97,117,108,116],[77,97,116,104,70,97,117,108,116],[67,97,115,116,70,97,117,108,116],[83,105,122,101,70,97,117,108,116],[83,116,111,114,101,70,97,117,108,116]]
def natL:List (Str × Str):=[([112,114,105,110,116],[40,73,41,86]),([112,114,105,110,116,76,111,110,103],[40,74,41,86]),([112,114,105,110,116,84,101,120,116],[40,91,66,41,86]),([97,100,100],[40,91,66,41,73]),
 ([103,101,116],[40,73,41,91,66]),([115,101,116],[40,73,91,66,41,86]),([100,101,108],[40,73,41,86]),([99,111,117,110,116],[40,41,73])]
def builtS:List (Str × Str):=[(objectT,[]),(throwT,objectT),(sysT,objectT)]++faultsL.map fun n=>(n,throwT)
def builtM:List (Key × Mem):=natL.map fun x=>((sysT,x.1,x.2),⟨sysT,true⟩)
def builtV:List (Key × Bool):=natL.map fun x=>((sysT,x.1,x.2),true)
theorem s179 {h:Heap}:xCall T 179 [] h=some (.agg (natL.flatMap fun x=>[.str x.1,.str x.2]),h):=by
 obtain ⟨os,b,w⟩:=h
 simp [av t179,code179,natL]
def S0:List (Str × Str):=[(objectT,[]),(throwT,objectT),(sysT,objectT)]
def fE (n:Str):Str × Str:=(n,throwT)
def nE (x:Str × Str):Key × Mem:=((sysT,x.1,x.2),⟨sysT,true⟩)
def vE (x:Str × Str):Key × Bool:=((sysT,x.1,x.2),true)
def bO (os:List AObj) (S:List (Str × Str)) (M:List (Key × Mem)) (V:List (Key × Bool)):List AObj :=
 os++[mObj .str .str S,mObj keyF memF [],mObj keyF memF M,mObj keyF .bool V,.cells 4 [.map (some os.length),.map (some (os.length+1)),.map (some (os.length+2)),.map (some (os.length+3))]]
theorem faults_new:∀ i,i < 6→getE (S0++(faultsL.take i).map fE) (faultsL.getD i [])=none:=by decide +kernel
theorem nats_newM:∀ i,i < 8→getE ((natL.take i).map nE) (sysT,(natL.getD i ([],[])).1,(natL.getD i ([],[])).2)=none:=by decide +kernel
theorem nats_newV:∀ i,i < 8→getE ((natL.take i).map vE) (sysT,(natL.getD i ([],[])).1,(natL.getD i ([],[])).2)=none:=by decide +kernel
theorem take_next {α:Type} {L:List α} {i:Nat} {x:α} (h:L[i]? = some x):L.take (i+1)=L.take i++[x]:=by
 rw [List.take_add_one,h]; rfl
theorem bO_upS {S:List (Str × Str)} {M:List (Key × Mem)} {V:List (Key × Bool)} {x y:Str} (hb:b≤os.length) (hg:getE S x=none) :
  evExt (.mapupd (.one .s)) [.map (some os.length),.str x,.str y] ⟨bO os S M V,b,w⟩=some (.tuple [],⟨bO os (S++[(x,y)]) M V,b,min w os.length⟩):=by
 have:=upd_new (os:=bO os S M V) (b:=b) (w:=w) (r:=os.length) (A:=S) (vf:=AVal.str) (kn:=.one .s) keyStr (by unfold bO; rw [dp]; rfl) (k:=x) y rfl hb hg
 rw [this]
 unfold bO
 rw [gb]; rfl
theorem bO_upM {S:List (Str × Str)} {M:List (Key × Mem)} {V:List (Key × Bool)} {x:Str × Str} (hb:b≤os.length) (hg:getE M (sysT,x.1,x.2)=none) :
  evExt (.mapupd (.agg [.s,.s,.s])) [.map (some (os.length+2)),.agg [.str sysT,.str x.1,.str x.2],.agg [.str sysT,.bool true]] ⟨bO os S M V,b,w⟩=some (.tuple [],⟨bO os S (M++[nE x]) V,b,min w (os.length+2)⟩):=by
 have:=upd_new (os:=bO os S M V) (b:=b) (w:=w) (r:=os.length+2) (A:=M) (vf:=memF) (kn:=.agg [.s,.s,.s]) keyKey (by unfold bO; rw [dy]; rfl) (k:=(sysT,x.1,x.2)) ⟨sysT,true⟩ rfl (by omega) hg
 rw [show AVal.agg [.str sysT,.str x.1,.str x.2]=keyF (sysT,x.1,x.2) from rfl,show AVal.agg [.str sysT,.bool true]=memF ⟨sysT,true⟩ from rfl,this]
 unfold bO
 rw [gk]; rfl
theorem bO_upV {S:List (Str × Str)} {M:List (Key × Mem)} {V:List (Key × Bool)} {x:Str × Str} (hb:b≤os.length) (hg:getE V (sysT,x.1,x.2)=none) :
  evExt (.mapupd (.agg [.s,.s,.s])) [.map (some (os.length+3)),.agg [.str sysT,.str x.1,.str x.2],.bool true] ⟨bO os S M V,b,w⟩=some (.tuple [],⟨bO os S M (V++[vE x]),b,min w (os.length+3)⟩):=by
 have:=upd_new (os:=bO os S M V) (b:=b) (w:=w) (r:=os.length+3) (A:=V) (vf:=AVal.bool) (kn:=.agg [.s,.s,.s]) keyKey (by unfold bO; rw [dy]; rfl) (k:=(sysT,x.1,x.2)) true rfl (by omega) hg
 rw [show AVal.agg [.str sysT,.str x.1,.str x.2]=keyF (sysT,x.1,x.2) from rfl,this]
 unfold bO
 rw [gk]; rfl
theorem bO_w {S:List (Str × Str)} {M:List (Key × Mem)} {V:List (Key × Bool)}:(bO os S M V)[os.length+4]? = some (.cells 4 [.map (some os.length),.map (some (os.length+1)),.map (some (os.length+2)),.map (some (os.length+3))]):=by
 unfold bO; rw [dy]; rfl
section
attribute [-simp] getElem?_pos getElem?_neg
theorem l284a (hb:b≤os.length):∀ (j i:Nat) (w:Nat),i+j=6→os.length≤w→∃ w',os.length≤w'∧∀ (k:AExit→St→Option (AVal × Heap)),
  xK T (.loop code284L1) ⟨[(1,.val (.ptr (some (os.length+4,0)))),(14,.val (.agg (faultsL.map AVal.str))),(15,.val (.int .i64 i))],⟨bO os (S0++(faultsL.take i).map fE) [] [],b,w⟩⟩ (k:=⟨k⟩) =
   k (.exit 0) ⟨[(1,.val (.ptr (some (os.length+4,0))))],⟨bO os (S0++faultsL.map fE) [] [],b,w'⟩⟩
 | 0,i,w,hi,hw=>by
  refine ⟨w,hw,fun k=>?_⟩
  have:i=6:=by omega
  subst this
  rw [cf,eh (by decide)]
  simp (disch:=omega) [code284L1,iltF]
 | j+1,i,w,hi,hw=>by
  obtain ⟨x,hx⟩:∃ x,faultsL[i]? = some x:=⟨_,ah (show i < faultsL.length by rw [show faultsL.length=6 from rfl]; omega)⟩
  have hn:=faults_new i (by omega)
  rw [fk,hx,de] at hn
  have hup:=fun w=>bO_upS (w:=w) (M:=[]) (V:=[]) (y:=throwT) hb hn
  have ht:=take_next hx
  have e3:S0++(faultsL.take i).map fE++[(x,throwT)]=S0++(faultsL.take (i+1)).map fE:=by rw [ht,gy,bh]; rfl
  rw [e3] at hup
  unfold throwT at hup
  obtain ⟨w',hw',ih⟩:=l284a hb j (i+1) (min w os.length) (by omega) (by omega)
  refine ⟨w',hw',fun k=>?_⟩
  have ih:=ih k
  have e2:((i+1:Nat):Int)=(i:Int)+1:=by omega
  rw [e2] at ih
  have hwo:=bO_w (os:=os) (S:=S0++(faultsL.take i).map fE) (M:=[]) (V:=[])
  have hxs:(faultsL.map AVal.str)[i]? = some (.str x):=by rw [cr,hx]; rfl
  rw [cf,← ih]
  generalize ACode.loop code284L1=L
  generalize faultsL.map AVal.str=fs at hxs ⊢
  generalize bO os (S0++(faultsL.take i).map fE) [] []=H at hup hwo ⊢
  generalize bO os (S0++(faultsL.take (i+1)).map fE) [] []=H2 at hup ⊢
  simp (disch:=omega) [-evExt,gz,gs,code284L1,hup,hwo,hxs,iltT,ileT,nltT,nltF,nleT,df]
theorem l284b {S:List (Str × Str)} (hb:b≤os.length):∀ (j i:Nat) (w:Nat),i+j=8→os.length≤w→∃ w',os.length≤w'∧∀ (k:AExit→St→Option (AVal × Heap)),
  xK T (.loop code284L0) ⟨[(1,.val (.ptr (some (os.length+4,0)))),(24,.val (.agg (natL.flatMap fun x=>[.str x.1,.str x.2]))),(25,.val (.int .i64 i))],⟨bO os S ((natL.take i).map nE) ((natL.take i).map vE),b,w⟩⟩ (k:=⟨k⟩) =
   k (.exit 2) ⟨[(1,.val (.ptr (some (os.length+4,0))))],⟨bO os S (natL.map nE) (natL.map vE),b,w'⟩⟩
 | 0,i,w,hi,hw=>by
  refine ⟨w,hw,fun k=>?_⟩
  have:i=8:=by omega
  subst this
  rw [cf,eh (by decide)]
  simp (disch:=omega) [code284L0,iltF]
 | j+1,i,w,hi,hw=>by
  obtain ⟨x,hx⟩:∃ x,natL[i]? = some x:=⟨_,ah (show i < natL.length by rw [show natL.length=8 from rfl]; omega)⟩
  have hn:=nats_newM i (by omega)
  rw [fk,hx,de] at hn
  have hn2:=nats_newV i (by omega)
  rw [fk,hx,de] at hn2
  have hup:=fun w=>bO_upM (w:=w) (S:=S) (V:=(natL.take i).map vE) hb hn
  have hup2:=fun w=>bO_upV (w:=w) (S:=S) (M:=(natL.take (i+1)).map nE) hb hn2
  have ht:=take_next hx
  have e3:(natL.take i).map nE++[nE x]=(natL.take (i+1)).map nE:=by rw [ht,gy]; rfl
  have e4:(natL.take i).map vE++[vE x]=(natL.take (i+1)).map vE:=by rw [ht,gy]; rfl
  rw [e3] at hup
  rw [e4] at hup2
  unfold sysT at hup hup2
  obtain ⟨w',hw',ih⟩:=l284b (S:=S) hb j (i+1) (min (min w (os.length+2)) (os.length+3)) (by omega) (by omega)
  refine ⟨w',hw',fun k=>?_⟩
  have ih:=ih k
  have e2:((i+1:Nat):Int)=(i:Int)+1:=by omega
  rw [e2] at ih
  have hwo:=bO_w (os:=os) (S:=S) (M:=(natL.take i).map nE) (V:=(natL.take i).map vE)
  have hwo2:=bO_w (os:=os) (S:=S) (M:=(natL.take (i+1)).map nE) (V:=(natL.take i).map vE)
  obtain ⟨hx1,hx2⟩:=flat_at (fun x:Str × Str=>[AVal.str x.1,AVal.str x.2]) 2 (fun _=>rfl) natL i x hx
  have hln:(natL.flatMap fun x:Str × Str=>[AVal.str x.1,AVal.str x.2]).length=16:=rfl
  rw [cf,← ih]
  generalize ACode.loop code284L0=L
  generalize (natL.flatMap fun x:Str × Str=>[AVal.str x.1,AVal.str x.2])=fs at hx1 hx2 hln ⊢
  generalize bO os S ((natL.take i).map nE) ((natL.take i).map vE)=H at hup hwo ⊢
  generalize bO os S ((natL.take (i+1)).map nE) ((natL.take i).map vE)=H2 at hup hup2 hwo2 ⊢
  generalize bO os S ((natL.take (i+1)).map nE) ((natL.take (i+1)).map vE)=H3 at hup2 ⊢
  simp (disch:=omega) [-evExt,gz,gs,code284L0,hup,hup2,hwo,hwo2,hx2,iltT,ileT,nltT,nltF,nleT,df]
end
theorem ents_ids {κ ν:Type} {kf:κ→AVal} {vf:ν→AVal} (hk:∀ k,(kf k).ids=[]) (hv:∀ v,(vf v).ids=[]):∀ (A:List (κ × ν)) (i:Nat),((ents kf vf i A).flatMap fun (k,v,_)=>k.ids++v.ids)=[]
 | [],_=>rfl
 | x :: A,i=>by simp only [ents,co,hk,hv,ents_ids hk hv A (i+1),ci]
theorem ents_ren {κ ν:Type} {kf:κ→AVal} {vf:ν→AVal} {f:Nat→Nat} (hk:∀ k,(kf k).ren f=kf k) (hv:∀ v,(vf v).ren f=vf v):∀ (A:List (κ × ν)) (i:Nat),((ents kf vf i A).map fun (k,v,b)=>(k.ren f,v.ren f,b))=ents kf vf i A
 | [],_=>rfl
 | x :: A,i=>by simp only [ents,bu,hk,hv,ents_ren hk hv A (i+1)]
theorem mObj_ids {κ ν:Type} {kf:κ→AVal} {vf:ν→AVal} (hk:∀ k,(kf k).ids=[]) (hv:∀ v,(vf v).ids=[]) (A:List (κ × ν)):(mObj kf vf A).ids=[]:=by
 simp only [mObj,AObj.ids]; exact ents_ids hk hv A 0
theorem mObj_ren {κ ν:Type} {kf:κ→AVal} {vf:ν→AVal} {f:Nat→Nat} (hk:∀ k,(kf k).ren f=kf k) (hv:∀ v,(vf v).ren f=vf v) (A:List (κ × ν)):(mObj kf vf A).ren f=mObj kf vf A:=by
 simp only [mObj,AObj.ren,ents_ren hk hv A 0]
theorem idsS (A:List (Str × Str)):(mObj AVal.str AVal.str A).ids=[]:=mObj_ids (fun _=>rfl) (fun _=>rfl) A
theorem idsM (A:List (Key × Mem)):(mObj keyF memF A).ids=[]:=mObj_ids (fun _=>rfl) (fun _=>rfl) A
theorem idsV (A:List (Key × Bool)):(mObj keyF AVal.bool A).ids=[]:=mObj_ids (fun _=>rfl) (fun _=>rfl) A
theorem renS (f:Nat→Nat) (A:List (Str × Str)):(mObj AVal.str AVal.str A).ren f=mObj AVal.str AVal.str A:=mObj_ren (fun _=>rfl) (fun _=>rfl) A
theorem renM (f:Nat→Nat) (A:List (Key × Mem)):(mObj keyF memF A).ren f=mObj keyF memF A:=mObj_ren (fun _=>rfl) (fun _=>rfl) A
theorem renV (f:Nat→Nat) (A:List (Key × Bool)):(mObj keyF AVal.bool A).ren f=mObj keyF AVal.bool A:=mObj_ren (fun _=>rfl) (fun _=>rfl) A
def wO (os:List AObj) (S:List (Str × Str)) (F M:List (Key × Mem)) (V:List (Key × Bool)):List AObj :=
 os++[.cells 4 [.map (some (os.length+1)),.map (some (os.length+2)),.map (some (os.length+3)),.map (some (os.length+4))],mObj .str .str S,mObj keyF memF F,mObj keyF memF M,mObj keyF .bool V]
theorem wO_world (os:List AObj) (S:List (Str × Str)) (F M:List (Key × Mem)) (V:List (Key × Bool)):World (wO os S F M V) os.length S F M V:=by
 unfold wO
 constructor
 ·rw [dp]; rfl
 ·rw [dy]; rfl
 ·rw [dy]; rfl
 ·rw [dy]; rfl
 ·rw [dy]; rfl
section
attribute [-simp] getElem?_pos getElem?_neg
theorem built_fin {S:List (Str × Str)} {M:List (Key × Mem)} {V:List (Key × Bool)} {w2:Nat} (hw:os.length≤w2) :
  finish ⟨os,b,w⟩ (.ptr (some (os.length+4,0))) ⟨bO os S M V,b,w2⟩=(.ptr (some (os.length,0)),⟨wO os S [] M V,b,w⟩):=by
 have g4:=bO_w (os:=os) (S:=S) (M:=M) (V:=V)
 have g0:(bO os S M V)[os.length]? = some (mObj .str .str S):=by unfold bO; rw [dp]; rfl
 have g1:(bO os S M V)[os.length+1]? = some (mObj keyF memF []):=by unfold bO; rw [dy]; rfl
 have g2:(bO os S M V)[os.length+2]? = some (mObj keyF memF M):=by unfold bO; rw [dy]; rfl
 have g3:(bO os S M V)[os.length+3]? = some (mObj keyF .bool V):=by unfold bO; rw [dy]; rfl
 have idsC:∀ e cs,(AObj.cells e cs).ids=AVal.idsL cs:=fun _ _=>rfl
 have renC:∀ (f:Nat→Nat) e cs,(AObj.cells e cs).ren f = .cells e (AVal.renL f cs):=fun _ _ _=>rfl
 have hr:reach ⟨bO os S M V,b,w2⟩ os.length 1000 [os.length+4] []=[os.length+4,os.length,os.length+1,os.length+2,os.length+3]:=by
  simp (disch:=omega) [-AObj.ids,gi,jf,nltF,g0,g1,g2,g3,g4,idsS,idsM,idsV,idsC]
 have hv:AVal.under os.length (.ptr (some (os.length+4,0)))=false:=by simp [AVal.under]
 have hw2:(⟨os,b,w⟩:Heap).size≤(⟨bO os S M V,b,w2⟩:Heap).wmin:=hw
 refine (finish_keep hw2 hv hr fun i hi=>?_).trans ?_
 ·simp (disch:=omega) only [AVal.ids,co,iz,bu,Heap.get,g0,g1,g2,g3,g4,idsS,idsM,idsV,idsC,ce,de,b0,bz,ci,AVal.idsL,bt,ep,or_false] at hi ⊢
  omega
 ·simp (disch:=omega) [-AObj.ids,-AObj.ren,nltF,g0,g1,g2,g3,g4,renS,renM,renV,renC,wO]
end
theorem s284 (hb:b≤os.length):xCall T 284 [] ⟨os,b,w⟩=some (.ptr (some (os.length,0)),⟨wO os builtS [] builtM builtV,b,w⟩):=by
 obtain ⟨w1,hw1,hk1⟩:=l284a (os:=os) hb 6 0 os.length rfl (aj _)
 have e1:S0++faultsL.map fE=builtS:=rfl
 rw [e1] at hk1
 obtain ⟨w2,hw2,hk2⟩:=l284b (os:=os) (S:=builtS) hb 8 0 w1 rfl hw1
 simp only [bl,List.take_zero,eu,ci] at hk1 hk2
 have g0:(bO os builtS (natL.map nE) (natL.map vE))=bO os builtS builtM builtV:=rfl
 rw [g0] at hk2
 have hfin:=built_fin (b:=b) (w:=w) (S:=builtS) (M:=builtM) (V:=builtV) hw2
 have h179:=fun h=>s179 (h:=h)
 generalize hH1:bO os builtS [] []=H1 at hk1 hk2
 generalize (natL.flatMap fun x:Str × Str=>[AVal.str x.1,AVal.str x.2])=fs at hk2 h179
 have hS0:bO os S0 [] []=os++[.map [(.str [79,98,106,101,99,116],.str [],0),(.str [84,104,114,111,119,97,98,108,101],.str [79,98,106,101,99,116],1),(.str [115,121,115],.str [79,98,106,101,99,116],2)] 3,.map [] 0,.map [] 0,.map [] 0,
  .cells 4 [.map (some os.length),.map (some (os.length+1)),.map (some (os.length+2)),.map (some (os.length+3))]]:=rfl
 have hfl:faultsL.map AVal.str=[.str [78,117,108,108,70,97,117,108,116],.str [66,111,117,110,100,115,70,97,117,108,116],.str [77,97,116,104,70,97,117,108,116],.str [67,97,115,116,70,97,117,108,116],.str [83,105,122,101,70,97,117,108,116],.str [83,116,111,114,101,70,97,117,108,116]]:=rfl
 rw [hS0,hfl] at hk1
 simp (disch:=omega) [-getElem?_pos,-getElem?_neg,-finish,gz,gs,av t284,code284,hk1,hk2,hfin,h179,dy,dp,gk,gb,hb,findA,akey,akey1,isKey,CK.is,cg]
end Go.Abs.AbsHier

namespace Go.Abs.AbsHier
open Go.Abs.AbsDesc
variable {os O:List AObj} {b w:Nat} {N:Nat} {S:List (Str × Str)} {F M:List (Key × Mem)} {V:List (Key × Bool)}
theorem idsC (e:Nat) (cs:List AVal):(AObj.cells e cs).ids=AVal.idsL cs:=rfl
theorem renC (f:Nat→Nat) (e:Nat) (cs:List AVal):(AObj.cells e cs).ren f = .cells e (AVal.renL f cs):=rfl
section
attribute [-simp] getElem?_pos getElem?_neg
theorem world_fin (h:World O os.length S F M V) (w0:Nat) {w2:Nat} (hw:os.length≤w2) :
  finish ⟨os,b,w0⟩ (.tuple [.ptr (some (os.length,0)),.int .i64 0]) ⟨O,b,w2⟩=(.tuple [.ptr (some (os.length,0)),.int .i64 0],⟨wO os S F M V,b,w0⟩):=by
 have g0:=h.w0
 have g1:=h.m1
 have g2:=h.m2
 have g3:=h.m3
 have g4:=h.m4
 have hr:reach ⟨O,b,w2⟩ os.length 1000 [os.length] []=[os.length,os.length+1,os.length+2,os.length+3,os.length+4]:=by
  simp (disch:=omega) [-AObj.ids,gi,jf,nltF,g0,g1,g2,g3,g4,idsS,idsM,idsV,idsC]
 have hv:AVal.under os.length (.tuple [.ptr (some (os.length,0)),.int .i64 0])=false:=by simp [AVal.under]
 have hw2:(⟨os,b,w0⟩:Heap).size≤(⟨O,b,w2⟩:Heap).wmin:=hw
 refine (finish_keep hw2 hv hr fun i hi=>?_).trans ?_
 ·simp (disch:=omega) only [AVal.ids,co,iz,bu,Heap.get,g0,g1,g2,g3,g4,idsS,idsM,idsV,idsC,ce,de,b0,bz,ci,AVal.idsL,bt,ep,or_false] at hi ⊢
  omega
 ·simp (disch:=omega) [-AObj.ids,-AObj.ren,nltF,g0,g1,g2,g3,g4,renS,renM,renV,renC,wO]
end
def superOk (S:List (Str × Str)) (u:UnitU):Bool:=!(getE S u.name).isSome && isClass u.name && !decide (u.super=sysT)
def supersS:List (Str × Str)→List UnitU→Option (List (Str × Str))
 | S,[]=>some S
 | S,u :: r=>if superOk S u then supersS (S++[(u.name,u.super)]) r else none
theorem wO_upS {x y:Str} (hb:b≤os.length) (hg:getE S x=none) :
  evExt (.mapupd (.one .s)) [.map (some (os.length+1)),.str x,.str y] ⟨wO os S F M V,b,w⟩=some (.tuple [],⟨wO os (S++[(x,y)]) F M V,b,min w (os.length+1)⟩):=by
 have:=upd_new (os:=wO os S F M V) (b:=b) (w:=w) (r:=os.length+1) (A:=S) (vf:=AVal.str) (kn:=.one .s) keyStr (wO_world os S F M V).m1 (k:=x) y rfl (by omega) hg
 rw [this]
 unfold wO
 rw [gk]; rfl
theorem wO_pre (os:List AObj) (S:List (Str × Str)) (F M:List (Key × Mem)) (V:List (Key × Bool)):Pre os (wO os S F M V):=Pre.app _ _
section
attribute [-simp] getElem?_pos getElem?_neg
theorem l49a {l:List UnitU} {a:Option (Nat × Nat)} {c:Option Nat} (hR:Row os 4 UnitU.cells l a) (hl:l.length≤32) (hb:b≤os.length):∀ (j i:Nat) (S:List (Str × Str)) (w:Nat),i+j=l.length→os.length≤w →
  ∃ S' w' e s',os.length≤w'∧(match supersS S (l.drop i) with
   | some S2=>S'=S2∧e = .exit 0∧s'=[(0,.val (.slice a l.length c)),(4,.val (.ptr (some (os.length,0))))]
   | none=>e = .ret∧s'=[(2,.val (.ptr none)),(3,.val (.int .i64 15))])∧∀ (k:AExit→St→Option (AVal × Heap)),
   xK T (.loop code49L2) ⟨[(0,.val (.slice a l.length c)),(4,.val (.ptr (some (os.length,0)))),(15,.val (.slice a l.length c)),(16,.val (.int .i64 l.length)),(17,.val (.int .i64 i))],⟨wO os S F M V,b,w⟩⟩ (k:=⟨k⟩) =
   k e ⟨s',⟨wO os S' F M V,b,w'⟩⟩
 | 0,i,S,w,hi,hw=>by
  refine ⟨S,w,.exit 0,[(0,.val (.slice a l.length c)),(4,.val (.ptr (some (os.length,0))))],hw,?_,fun k=>?_⟩
  ·rw [bg (by omega)]
   exact ⟨rfl,rfl,rfl⟩
  ·rw [cf]
   simp (disch:=omega) [code49L2,iltF]
 | j+1,i,S,w,hi,hw=>by
  obtain ⟨u,hu⟩:∃ u,l[i]? = some u:=⟨_,ah (by omega)⟩
  obtain ⟨p,o,cs,rfl,hpp,hpl,hcs,ht⟩:=ig hR hu
  have hd:l.drop i=u :: l.drop (i+1):=by
   have:=ai hu
   rw [ah this] at hu
   rw [ea this,dg hu]
  have hW:=wO_world os S F M V
  have hpO:=wO_pre os S F M V _ _ hpp
  have hbO:b≤(wO os S F M V).length:=by simp [wO]; omega
  have h54:=fun w=>s54 (b:=b) (w:=w) hW (c:=u.name)
  have h25:=fun w=>s25 (os:=wO os S F M V) (b:=b) (w:=w) (s:=u.name) hbO
  have hup:=fun w hg=>wO_upS (S:=S) (F:=F) (M:=M) (V:=V) (w:=w) (x:=u.name) (y:=u.super) hb hg
  have hw0:=hW.w0
  have hcu:u.cells=[.str u.name,.str u.super,.slice u.fa u.fields.length u.fc,.slice u.ma u.meths.length u.mc]:=rfl
  rw [hcu] at ht
  rw [hd]
  rcases ap (superOk S u) with c0 | c0
  ·have hc:=c0
   unfold superOk sysT at hc
   simp only [au,ff,decide_eq_false_iff_not] at hc
   obtain ⟨⟨c1,c2⟩,c3⟩:=hc
   have hg:getE S u.name=none:=by simpa using c1
   have hup:=fun w=>hup w hg
   obtain ⟨S',w',e,s',r1,r2,ih⟩:=l49a (c:=c) hR hl hb j (i+1) (S++[(u.name,u.super)]) (min w (os.length+1)) (by omega) (by omega)
   refine ⟨S',w',e,s',r1,by simp only [supersS,c0,if_true]; exact r2,fun k=>?_⟩
   have ih:=ih k
   have e2:((i+1:Nat):Int)=(i:Int)+1:=by omega
   rw [e2] at ih
   rw [cf,← ih]
   generalize ACode.loop code49L2=L
   generalize wO os (S++[(u.name,u.super)]) F M V=H2 at hup ⊢
   generalize wO os S F M V=H at hpO h54 h25 hup hw0 ⊢
   simp (disch:=omega) [-evExt,gz,gs,code49L2,h54,h25,hup,hw0,nltT,nltF,iltT,ileT,nleT,df,hpO,ht,hg,c2,c3]
  ·refine ⟨S,w,.ret,[(2,.val (.ptr none)),(3,.val (.int .i64 15))],hw,by simp only [supersS,c0]; exact ⟨trivial,trivial⟩,fun k=>?_⟩
   unfold superOk sysT at c0
   rw [cf]
   generalize ACode.loop code49L2=L
   generalize wO os S F M V=H at hpO h54 h25 hw0 ⊢
   cases c1:(getE S u.name).isSome with
   | true=>simp (disch:=omega) [-evExt,gz,gs,code49L2,h54,h25,hw0,nltT,nltF,iltT,ileT,nleT,df,hpO,ht,c1]
   | false =>
    cases c2:isClass u.name with
    | false=>simp (disch:=omega) [-evExt,gz,gs,code49L2,h54,h25,hw0,nltT,nltF,iltT,ileT,nleT,df,hpO,ht,c1,c2]
    | true =>
     by_cases c3:u.super=[115,121,115]
     ·simp (disch:=omega) [-evExt,gz,gs,code49L2,h54,h25,hw0,nltT,nltF,iltT,ileT,nleT,df,hpO,ht,c1,c2,c3]
     ·rw [c1,c2,decide_eq_false c3] at c0; cases c0
end
def unitOk (S:List (Str × Str)) (M:List (Key × Mem)) (u:UnitU):Bool:=endsS S u.name && fieldsS S [] u.fields && methsS S u.name M u.meths
def membersS (S:List (Str × Str)):List (Key × Mem)→List (Key × Mem)→List UnitU→Option (List (Key × Mem) × List (Key × Mem))
 | F,M,[]=>some (F,M)
 | F,M,u :: r=>if unitOk S M u then membersS S (F++u.fields.map (fieldE u.name)) (M++u.meths.map (methE u.name)) r else none
section
attribute [-simp] getElem?_pos getElem?_neg
theorem l49b {l:List UnitU} {a:Option (Nat × Nat)} {c:Option Nat} (hR:Row os 4 UnitU.cells l a) (hok:∀ u ∈ l,u.ok os) (hl:l.length≤32) (hb:b≤os.length) (hS:S.length≤9223372036854775807) (hnd:(l.map UnitU.name).Nodup) :
  ∀ (j i:Nat) (O:List AObj) (F M:List (Key × Mem)) (w:Nat),i+j=l.length→os.length≤w→World O os.length S F M V→Pre os O→(∀ x ∈ F,∀ u ∈ l.drop i,x.1.1≠u.name) →
  ∃ O' w' e s',os.length≤w'∧(match membersS S F M (l.drop i) with
   | some q=>World O' os.length S q.1 q.2 V∧Pre os O'∧e = .exit 2∧s'=[(0,.val (.slice a l.length c)),(4,.val (.ptr (some (os.length,0))))]
   | none=>e = .ret∧s'=[(2,.val (.ptr none)),(3,.val (.int .i64 15))])∧∀ (k:AExit→St→Option (AVal × Heap)),
   xK T (.loop code49L1) ⟨[(0,.val (.slice a l.length c)),(4,.val (.ptr (some (os.length,0)))),(45,.val (.slice a l.length c)),(46,.val (.int .i64 l.length)),(47,.val (.int .i64 i))],⟨O,b,w⟩⟩ (k:=⟨k⟩) =
   k e ⟨s',⟨O',b,w'⟩⟩
 | 0,i,O,F,M,w,hi,hw,h,hp,hF=>by
  refine ⟨O,w,.exit 2,[(0,.val (.slice a l.length c)),(4,.val (.ptr (some (os.length,0))))],hw,?_,fun k=>?_⟩
  ·rw [bg (by omega)]
   exact ⟨h,hp,rfl,rfl⟩
  ·rw [cf]
   simp (disch:=omega) [code49L1,iltF]
 | j+1,i,O,F,M,w,hi,hw,h,hp,hF=>by
  obtain ⟨u,hu⟩:∃ u,l[i]? = some u:=⟨_,ah (by omega)⟩
  obtain ⟨p,o,cs,rfl,hpp,hpl,hcs,ht⟩:=ig hR hu
  have huo:=hok u (az hu)
  have hd:l.drop i=u :: l.drop (i+1):=by
   have:=ai hu
   rw [ah this] at hu
   rw [ea this,dg hu]
  have hlt:=h.lt
  have hpO:=hp _ _ hpp
  have h98:=fun w=>s98 (b:=b) (w:=w) h (by omega) hS (c:=u.name)
  obtain ⟨O1,w1,hw1,h99a,h99⟩:=s99 (w:=w) huo hp (aj _) h hb (fun x hx=>hF x hx u (by rw [hd]; exact bc ..))
  have hcu:u.cells=[.str u.name,.str u.super,.slice u.fa u.fields.length u.fc,.slice u.ma u.meths.length u.mc]:=rfl
  rw [hcu] at ht h99
  rw [hd]
  rcases ap (endsS S u.name) with c1 | c1
  ·rcases ap (fieldsS S [] u.fields) with c2 | c2
   ·obtain ⟨X,rfl⟩:=h99a c2
    have h1:=(h.setF (F++u.fields.map (fieldE u.name))).app X
    have hp1:Pre os (O.set (os.length+2) (mObj keyF memF (F++u.fields.map (fieldE u.name)))++X):=(hp.set _ (by omega)).trans (Pre.app _ _)
    obtain ⟨O2,w2,hw2,h100a,h100⟩:=s100 (w:=w1) huo hp1 (aj _) h1 hb
    rw [hcu] at h100
    rcases ap (methsS S u.name M u.meths) with c3 | c3
    ·have e3:=h100a c3
     have h2:=h1.setM (M++u.meths.map (methE u.name))
     have hp2:Pre os O2:=by rw [e3]; exact hp1.set _ (by omega)
     rw [← e3] at h2
     obtain ⟨O',w',e,s',r1,r2,ih⟩:=l49b (c:=c) hR hok hl hb hS hnd j (i+1) O2 (F++u.fields.map (fieldE u.name)) (M++u.meths.map (methE u.name)) w2 (by omega) (by omega) h2 hp2 (fun x hx v hv=>by
      rcases bo.1 hx with hx | hx
      ·exact hF x hx v (by rw [hd]; exact bj _ hv)
      ·obtain ⟨f,hf,rfl⟩:=d7.1 hx
       intro e
       have hnd2:((l.drop i).map UnitU.name).Nodup:=by rw [List.map_drop]; exact hnd.sublist (List.drop_sublist _ _)
       rw [hd,bu,List.nodup_cons] at hnd2
       exact hnd2.1 (by rw [show u.name=v.name from e]; exact List.mem_map_of_mem hv))
     have c4:unitOk S M u=true:=by simp [unitOk,c1,c2,c3]
     refine ⟨O',w',e,s',r1,by simp only [membersS,c4,if_true]; exact r2,fun k=>?_⟩
     have ih:=ih k
     have e2:((i+1:Nat):Int)=(i:Int)+1:=by omega
     rw [e2] at ih
     rw [cf,← ih]
     generalize ACode.loop code49L1=L
     generalize O.set (os.length+2) (mObj keyF memF (F++u.fields.map (fieldE u.name)))++X=H1 at h99 h100
     simp (disch:=omega) [-evExt,gz,gs,code49L1,h98,nltT,nltF,iltT,ileT,nleT,df,hpO,ht,h99,h100,c1,c2,c3]
    ·have c4:unitOk S M u=false:=by simp [unitOk,c3]
     refine ⟨O2,w2,.ret,[(2,.val (.ptr none)),(3,.val (.int .i64 15))],by omega,by simp only [membersS,c4]; exact ⟨trivial,trivial⟩,fun k=>?_⟩
     rw [cf]
     generalize ACode.loop code49L1=L
     generalize O.set (os.length+2) (mObj keyF memF (F++u.fields.map (fieldE u.name)))++X=H1 at h99 h100
     simp (disch:=omega) [-evExt,gz,gs,code49L1,h98,nltT,nltF,iltT,ileT,nleT,df,hpO,ht,h99,h100,c1,c2,c3]
   ·have c4:unitOk S M u=false:=by simp [unitOk,c2]
    refine ⟨O1,w1,.ret,[(2,.val (.ptr none)),(3,.val (.int .i64 15))],by omega,by simp only [membersS,c4]; exact ⟨trivial,trivial⟩,fun k=>?_⟩
    rw [cf]
    generalize ACode.loop code49L1=L
    simp (disch:=omega) [-evExt,gz,gs,code49L1,h98,nltT,nltF,iltT,ileT,nleT,df,hpO,ht,h99,c1,c2]
  ·have c4:unitOk S M u=false:=by simp [unitOk,c1]
   refine ⟨O,w,.ret,[(2,.val (.ptr none)),(3,.val (.int .i64 15))],hw,by simp only [membersS,c4]; exact ⟨trivial,trivial⟩,fun k=>?_⟩
   rw [cf]
   generalize ACode.loop code49L1=L
   simp (disch:=omega) [-evExt,gz,gs,code49L1,h98,nltT,nltF,iltT,ileT,nleT,df,hpO,ht,c1]
end
end Go.Abs.AbsHier

namespace Go.Abs.AbsHier
open Go.Abs.AbsDesc
variable {os O:List AObj} {b w:Nat} {N:Nat} {S:List (Str × Str)} {F M:List (Key × Mem)} {V:List (Key × Bool)}
section
attribute [-simp] getElem?_pos getElem?_neg
theorem l49c {l:List UnitU} {a:Option (Nat × Nat)} {c:Option Nat} (hR:Row os 4 UnitU.cells l a) (hok:∀ u ∈ l,u.ok os) (hl:l.length≤32) (hb:b≤os.length) (hS:S.length≤9223372036854775807)
  (h:World O os.length S F M V) (hp:Pre os O):∀ (j i:Nat) (w:Nat),i+j=l.length→∀ (k:AExit→St→Option (AVal × Heap)),
   xK T (.loop code49L0) ⟨[(4,.val (.ptr (some (os.length,0)))),(69,.val (.slice a l.length c)),(70,.val (.int .i64 l.length)),(71,.val (.int .i64 i))],⟨O,b,w⟩⟩ (k:=⟨k⟩) =
   if (l.drop i).all (overS S M) then k (.exit 4) ⟨[(4,.val (.ptr (some (os.length,0))))],⟨O,b,w⟩⟩ else k .ret ⟨[(2,.val (.ptr none)),(3,.val (.int .i64 15))],⟨O,b,w⟩⟩
 | 0,i,w,hi,k=>by
  rw [cf,bg (by omega)]
  simp (disch:=omega) [code49L0,iltF]
 | j+1,i,w,hi,k=>by
  obtain ⟨u,hu⟩:∃ u,l[i]? = some u:=⟨_,ah (by omega)⟩
  obtain ⟨p,o,cs,rfl,hpp,hpl,hcs,ht⟩:=ig hR hu
  have huo:=hok u (az hu)
  have hd:l.drop i=u :: l.drop (i+1):=by
   have:=ai hu
   rw [ah this] at hu
   rw [ea this,dg hu]
  have hlt:=h.lt
  have hpO:=hp _ _ hpp
  have h97:=fun w=>s97 (w:=w) (b:=b) (huo.pre hp) h (by omega) hS
  have hcu:u.cells=[.str u.name,.str u.super,.slice u.fa u.fields.length u.fc,.slice u.ma u.meths.length u.mc]:=rfl
  rw [hcu] at ht h97
  have ih:=l49c (c:=c) hR hok hl hb hS h hp j (i+1) w (by omega) k
  have e2:((i+1:Nat):Int)=(i:Int)+1:=by omega
  rw [e2] at ih
  rw [cf,hd]
  simp only [dl]
  generalize ACode.loop code49L0=L at ih ⊢
  rcases ap (overS S M u) with c1 | c1
  ·simp (disch:=omega) [-List.all_eq_true,gz,gs,code49L0,h97,nltT,nltF,iltT,ileT,nleT,df,hpO,ht,c1,ih]
  ·simp (disch:=omega) [-List.all_eq_true,gz,gs,code49L0,h97,nltT,nltF,iltT,ileT,nleT,df,hpO,ht,c1]
end
def supE (u:UnitU):Str × Str:=(u.name,u.super)
theorem supersS_eq:∀ {l:List UnitU} {S S2:List (Str × Str)},supersS S l=some S2→S2=S++l.map supE∧(l.map UnitU.name).Nodup∧∀ u ∈ l,getE S u.name=none∧isClass u.name=true∧u.super≠sysT
 | [],S,S2,h=>by simp only [supersS] at h; cases h; simp
 | u :: l,S,S2,h=>by
  simp only [supersS] at h
  split at h
  case isFalse=>cases h
  rename_i hu
  obtain ⟨h1,h2,h3⟩:=supersS_eq h
  unfold superOk at hu
  simp only [au,ff,decide_eq_false_iff_not] at hu
  obtain ⟨⟨c1,c2⟩,c3⟩:=hu
  have hg:getE S u.name=none:=by simpa using c1
  refine ⟨by rw [h1,bh]; rfl,?_,fun v hv=>?_⟩
  ·rw [bu,List.nodup_cons]
   refine ⟨fun hm=>?_,h2⟩
   obtain ⟨v,hv,e⟩:=d7.1 hm
   have:=(h3 v hv).1
   rw [kx,e,hg] at this
   simp [getE] at this
  ·rcases bt.1 hv with rfl | hv
   ·exact ⟨hg,c2,c3⟩
   ·obtain ⟨d1,d2,d3⟩:=h3 v hv
    rw [kx] at d1
    refine ⟨?_,d2,d3⟩
    cases hq:getE S v.name with
    | none=>rfl
    | some y=>rw [hq] at d1; cases d1
def worldS (l:List UnitU):Option (List (Str × Str) × List (Key × Mem) × List (Key × Mem)) :=
 if l.length≤32 then match supersS builtS l with
  | some S=>match membersS S [] builtM l with
   | some q=>if l.all (overS S q.2) then some (S,q.1,q.2) else none
   | none=>none
  | none=>none
 else none
def newV (N:Nat):Option (List (Str × Str) × List (Key × Mem) × List (Key × Mem))→AVal
 | none=>.tuple [.ptr none,.int .i64 15]
 | some _=>.tuple [.ptr (some (N,0)),.int .i64 0]
def newO (os:List AObj):Option (List (Str × Str) × List (Key × Mem) × List (Key × Mem))→List AObj
 | none=>os
 | some q=>wO os q.1 q.2.1 q.2.2 builtV
theorem fin_none {h0 h:Heap} (hw:h0.size≤h.wmin):finish h0 (.tuple [.ptr none,.int .i64 15]) h=(.tuple [.ptr none,.int .i64 15],h0):=by
 unfold finish
 rw [if_neg (by omega)]
 simp [AVal.under,AVal.unders]
section
attribute [-simp] getElem?_pos getElem?_neg
attribute [local simp] gz gs
theorem s49 {l:List UnitU} {a:Option (Nat × Nat)} {c:Option Nat} (hR:Row os 4 UnitU.cells l a) (hok:∀ u ∈ l,u.ok os) (hn:l.length≤9223372036854775807) (hb:b≤os.length) :
  xCall T 49 [.slice a l.length c] ⟨os,b,w⟩=some (newV os.length (worldS l),⟨newO os (worldS l),b,w⟩):=by
 have h284:=fun w=>s284 (os:=os) (b:=b) (w:=w) hb
 have hlen:(wO os builtS [] builtM builtV).length=os.length+5:=by simp [wO]
 unfold worldS
 by_cases hl:l.length≤32
 ·rw [if_pos hl]
  have hli:¬ ((32:Int) < l.length):=by omega
  obtain ⟨S1,w1,e1,s1,p1,p2,p3⟩:=l49a (F:=[]) (M:=builtM) (V:=builtV) (c:=c) hR hl hb l.length 0 builtS os.length (by omega) (aj _)
  simp only [bl,dr] at p2 p3
  cases hs:supersS builtS l with
  | none =>
   rw [hs] at p2
   simp only at p2
   obtain ⟨rfl,rfl⟩:=p2
   have hf:=fun X=>fin_none (h0:=⟨os,b,w⟩) (h:=⟨X,b,w1⟩) p1
   simp (disch:=omega) [-finish,av t49,code49,h284,p3,hl,hli,hf,newV,newO]
  | some S2 =>
   rw [hs] at p2
   simp only at p2
   obtain ⟨rfl,rfl,rfl⟩:=p2
   obtain ⟨q1,q2,q3⟩:=supersS_eq hs
   have hSl:S1.length≤9223372036854775807:=by rw [q1]; simp [builtS,faultsL]; omega
   obtain ⟨O2,w2,e2,s2,r1,r2,r3⟩:=l49b (V:=builtV) (c:=c) hR hok hl hb hSl q2 l.length 0 (wO os S1 [] builtM builtV) [] builtM w1 (by omega) p1 (wO_world _ _ _ _ _) (wO_pre _ _ _ _ _) (fun _ h=>by cases h)
   simp only [bl,dr] at r2 r3
   simp only
   cases hm:membersS S1 [] builtM l with
   | none =>
    rw [hm] at r2
    simp only at r2
    obtain ⟨rfl,rfl⟩:=r2
    have hf:=fun X=>fin_none (h0:=⟨os,b,w⟩) (h:=⟨X,b,w2⟩) r1
    simp (disch:=omega) [-finish,av t49,code49,h284,p3,r3,hl,hli,hf,newV,newO]
   | some q =>
    obtain ⟨F2,M2⟩:=q
    rw [hm] at r2
    simp only at r2
    obtain ⟨hW,hP,rfl,rfl⟩:=r2
    have h3:=fun w=>l49c (b:=b) (c:=c) hR hok hl hb hSl hW hP l.length 0 w (by omega)
    simp only [bl,dr] at h3
    simp only
    rcases ap (l.all (overS S1 M2)) with c0 | c0
    ·rw [c0] at h3 ⊢
     simp only [if_true] at h3 ⊢
     have hf:=world_fin (b:=b) hW w r1
     simp (disch:=omega) [-finish,av t49,code49,h284,p3,r3,h3,hl,hli,hf,newV,newO]
    ·rw [c0] at h3 ⊢
     simp only [am,if_false] at h3 ⊢
     have hf:=fun X=>fin_none (h0:=⟨os,b,w⟩) (h:=⟨X,b,w2⟩) r1
     simp (disch:=omega) [-finish,av t49,code49,h284,p3,r3,h3,hl,hli,hf,newV,newO]
 ·rw [if_neg hl]
  have hli:(32:Int) < l.length:=by omega
  simp (disch:=omega) [av t49,code49,h284,hl,hli,newV,newO]
end
end Go.Abs.AbsHier

namespace Go.Abs
def FieldU.fits (x:FieldU):Prop:=x.name.length≤reachB∧x.desc.length≤reachB
def InsU.fits (x:InsU):Prop:=x.cls.length≤reachB∧x.name.length≤reachB∧x.desc.length≤reachB∧x.text.length≤reachB
def TrapU.fits (x:TrapU):Prop:=x.cls.length≤reachB
structure MapU.fits (x:MapU):Prop where
 l:x.locals.length≤reachB
 s:x.stack.length≤reachB
 ls:∀ t ∈ x.locals,t.length≤reachB
 ss:∀ t ∈ x.stack,t.length≤reachB
structure MethU.fits (m:MethU):Prop where
 name:m.name.length≤reachB
 desc:m.desc.length≤reachB
 c:m.code.length≤reachB
 cs:∀ x ∈ m.code,x.fits
 t:m.traps.length≤reachB
 ts:∀ x ∈ m.traps,x.fits
 x:m.maps.length≤reachB
 xs:∀ x ∈ m.maps,x.fits
structure UnitU.cap (u:UnitU):Prop where
 f:∀ k,u.fc=some k→u.fields.length≤k
 m:∀ k,u.mc=some k→u.meths.length≤k
structure UnitU.fits (u:UnitU):Prop where
 name:u.name.length≤reachB
 super:u.super.length≤reachB
 f:u.fields.length≤reachB
 fs:∀ x ∈ u.fields,x.fits
 m:u.meths.length≤reachB
 ms:∀ x ∈ u.meths,x.fits
 cap:u.cap
section
variable {os:List AObj} {b w:Nat} {d:Dat} {cs:List AVal}
theorem has_strC (h:Has ⟨os,b,w⟩ .str d cs):∃ x:Str,cs=strC x∧x.length≤reachB:=by
 obtain ⟨s,_,rfl,hs⟩:=h.str
 exact ⟨s,rfl,hs⟩
theorem big_of {n:Nat} (h:n≤reachB):n≤big:=by
 have:n≤140737488351232:=h
 show n≤9223372036854775807
 omega
theorem under_of {n m:Nat} {a:Option (Nat × Nat)} (h:∀ i o,a=some (i,o)→i < n) (hm:n≤m):under m a:=fun i o e=>fp (h i o e) hm
end
end Go.Abs

namespace Go.Abs.AbsMake
open Go.Abs.AbsDesc Go.Abs.AbsHier
variable {os O B:List AObj} {b w:Nat}
def tapeO (tv:AVal) (p:Nat):AObj:=.cells 2 [tv,.int .i64 p]
structure Tape (O:List AObj) (tN:Nat) (tb:List UInt8) (tv:AVal) (p:Nat):Prop where
 at':O[tN]? = some (tapeO tv p)
 le:p≤tb.length
 small:tb.length≤1000
structure TapeV (O:List AObj) (tN:Nat) (tb:List UInt8) (tv:AVal):Prop where
 row:∃ a c,tv = .slice a tb.length c∧Row O 1 byteCell tb a∧∀ i o,a=some (i,o)→i≠tN
theorem set_same {O:List AObj} {i:Nat} {o:AObj} (h:O[i]? = some o):O.set i o=O:=by
 refine js fun j=>?_
 by_cases e:i=j
 ·subst e; rw [db,if_pos rfl,if_pos (ai h),h]
 ·rw [aq e]
section
attribute [-simp] getElem?_pos getElem?_neg List.all_eq_true
attribute [local simp] gz gs nltT nltF iltT iltF ileT nleT df
theorem s102 {tN p:Nat} {tb:List UInt8} {tv:AVal} (ht:Tape O tN tb tv p) (hv:TapeV O tN tb tv) (hb:b≤tN) {n:Int} (hn:1≤n) (hn2:n≤1000) :
  ∃ (r p':Nat) (nx:Nat→Nat),(r:Int) < n∧p'≤tb.length∧((∀ w,nx w=w)∨(∀ w,nx w=min w tN))∧∀ w,xCall T 102 [.ptr (some (tN,0)),.int .i64 n] ⟨O,b,w⟩=some (.int .i64 r,⟨O.set tN (tapeO tv p'),b,nx w⟩):=by
 obtain ⟨a,c,rfl,hr,hd⟩:=hv.row
 have h0:=ht.at'
 have hle:=ht.le
 have hsm:=ht.small
 have hl:=ai h0
 unfold tapeO at h0
 by_cases c1:n < 2
 ·refine ⟨0,p,id,by omega,hle,.inl fun w=>rfl,fun w=>?_⟩
  rw [set_same ht.at']
  simp (disch:=omega) [av t102,code102,c1]
 ·by_cases c2:tb.length≤p
  ·refine ⟨0,p,id,by omega,hle,.inl fun w=>rfl,fun w=>?_⟩
   rw [set_same ht.at']
   simp (disch:=omega) [av t102,code102,c1,h0,c2]
  ·obtain ⟨x,hx⟩:∃ x,tb[p]? = some x:=⟨_,ah (by omega)⟩
   obtain ⟨q,o,cs,ha,hp,hpl,hcs,hcv⟩:=ig hr hx
   subst ha
   have hq:q≠tN:=hd q o rfl
   have hv2:cs[o+p]? = some (.int .u8 x.toNat):=by
    have hv':(List.drop (o+p*1) cs).take 1=[.int .u8 x.toNat]:=hcv
    have:=congrArg (fun z=>z[0]?) hv'
    simpa [List.getElem?_take,dt] using this
   have hxl:=x.toNat_lt
   have hm:((x.toNat:Int).tmod n).toNat < n:=by
    rw [Int.tmod_eq_emod_of_nonneg (by omega)]
    have:=Int.emod_lt_of_pos (x.toNat:Int) (show 0 < n by omega)
    have:=Int.emod_nonneg (x.toNat:Int) (show n≠0 by omega)
    omega
   have hm2:(((x.toNat:Int).tmod n).toNat:Int)=(x.toNat:Int).tmod n:=by
    rw [Int.tmod_eq_emod_of_nonneg (by omega)]
    have:=Int.emod_nonneg (x.toNat:Int) (show n≠0 by omega)
    omega
   have hp2:∀ y,(O.set tN y)[q]? = some (.cells 1 cs):=fun y=>by rw [aq (Ne.symm hq)]; exact hp
   have ht2:∀ y,(O.set tN y)[tN]? = some y:=fun y=>by rw [db,if_pos rfl,if_pos hl]
   have e2:((p+1:Nat):Int)=(p:Int)+1:=by omega
   have n0:¬ n=0:=by omega
   refine ⟨((x.toNat:Int).tmod n).toNat,p+1,fun w=>min w tN,hm,by omega,.inr fun w=>rfl,fun w=>?_⟩
   rw [hm2]
   unfold tapeO
   rw [e2]
   simp (disch:=omega) [av t102,code102,c1,h0,c2,hb,hp2,ht2,hv2,n0]
end
structure Own {α:Type} (O:List AObj) (N e:Nat) (f:α→List AVal) (L:List α) (p:Option (Nat × Nat)) (c:Option Nat):Prop where
 some:∀ i o,p=some (i,o)→o=0∧c=Option.none∧N < i∧O[i]? = some (.cells e (L.flatMap f))
 none:p=Option.none→L=[]∧c=Option.some 0
def classesT:List Str:=[[],throwT,[77,97,116,104,70,97,117,108,116],[79,111,112,115],[78,117,108,108,70,97,117,108,116]]
structure InsU.short (x:InsU):Prop where
 cls:x.cls.length≤100
 name:x.name.length≤100
 desc:x.desc.length≤100
 text:x.text.length≤100
structure Leaf (O:List AObj) (N:Nat) (pc pt px:Option (Nat × Nat)) (L:List Str) (a:Option (Nat × Nat)):Prop where
 row:Row O 1 strC L a
 len:L.length≤100
 short:∀ t ∈ L,t.length≤100
 at':∀ i o,a=some (i,o)→N < i∧i < O.length∧(∀ o',pc≠some (i,o'))∧(∀ o',pt≠some (i,o'))∧(∀ o',px≠some (i,o'))
def wrO (tN:Nat) (pc pt px:Option (Nat × Nat)) (cc ct cx:Option Nat) (n nt nx:Nat) (dep bud:Int):AObj :=
 .cells 6 [.ptr (some (tN,0)),.slice pc n cc,.slice pt nt ct,.slice px nx cx,.int .i64 dep,.int .i64 bud]
structure Wr (tN:Nat) (tb:List UInt8) (tv:AVal) (B O:List AObj) (pc pt px:Option (Nat × Nat)) (cc ct cx:Option Nat) (C:List InsU) (S:List TrapU) (M:List MapU) (dep bud:Int):Prop where
 keep:∀ i,i < B.length→i≠tN→O[i]? = B[i]?
 tape:∃ p,Tape O tN tb tv p
 tv:TapeV B tN tb tv
 lt:tN < B.length
 wr:O[B.length]? = some (wrO tN pc pt px cc ct cx C.length S.length M.length dep bud)
 c:Own O B.length 7 InsU.cells C pc cc
 s:Own O B.length 4 TrapU.cells S pt ct
 m:Own O B.length 3 MapU.cells M px cx
 cs:∀ i o o',pc=some (i,o)→pt≠some (i,o')
 cm:∀ i o o',pc=some (i,o)→px≠some (i,o')
 sm:∀ i o o',pt=some (i,o)→px≠some (i,o')
 cok:∀ x ∈ C,InsU.short x
 sok:∀ x ∈ S,x.cls ∈ classesT
 mok:∀ x ∈ M,Leaf O B.length pc pt px x.locals x.la∧Leaf O B.length pc pt px x.stack x.sa
structure Ws (tN:Nat) (tb:List UInt8) (tv:AVal) (B O:List AObj) (n k:Nat) (dep:Int):Prop where
 ex:∃ pc pt px cc ct cx C S M bud,Wr tN tb tv B O pc pt px cc ct cx C S M dep bud∧C.length=n∧n≤k∧S.length≤k∧M.length≤k
section
variable {tN:Nat} {tb:List UInt8} {tv:AVal} {pc pt px:Option (Nat × Nat)} {cc ct cx:Option Nat} {C:List InsU} {S:List TrapU} {M:List MapU} {dep bud:Int}
theorem Wr.len (h:Wr tN tb tv B O pc pt px cc ct cx C S M dep bud):B.length < O.length:=ai h.wr
theorem Leaf.app {N:Nat} {L:List Str} {a:Option (Nat × Nat)} (h:Leaf O N pc pt px L a) (X:List AObj):Leaf (O++X) N pc pt px L a :=
 ⟨(Pre.app O X).row h.row,h.len,h.short,fun i o e=>by
  obtain ⟨h1,h2,h3⟩:=h.at' i o e
  exact ⟨h1,by rw [aw]; omega,h3⟩⟩
theorem Leaf.set {N j:Nat} {L:List Str} {a:Option (Nat × Nat)} {y:AObj} (h:Leaf O N pc pt px L a) (hj:∀ o,a≠some (j,o)):Leaf (O.set j y) N pc pt px L a :=
 ⟨⟨fun hne=>by
  obtain ⟨i,o,cs,h1,h2,h3⟩:=h.row.at' hne
  exact ⟨i,o,cs,h1,by rw [aq (fun e=>hj o (by rw [e]; exact h1))]; exact h2,h3⟩⟩,h.len,h.short,fun i o e=>by
  obtain ⟨h1,h2,h3⟩:=h.at' i o e
  exact ⟨h1,by simpa using h2,h3⟩⟩
theorem Leaf.npc {N:Nat} {L:List Str} {a:Option (Nat × Nat)} {q:Nat} (h:Leaf O N pc pt px L a) (hq:∀ i o,a=some (i,o)→i < q):Leaf O N (some (q,0)) pt px L a :=
 ⟨h.row,h.len,h.short,fun i o e=>by
  obtain ⟨h1,h2,h3,h4,h5⟩:=h.at' i o e
  exact ⟨h1,h2,fun o' e'=>by have:=hq i o e; simp only [bi,dx] at e'; omega,h4,h5⟩⟩
theorem Leaf.npt {N:Nat} {L:List Str} {a:Option (Nat × Nat)} {q:Nat} (h:Leaf O N pc pt px L a) (hq:∀ i o,a=some (i,o)→i < q):Leaf O N pc (some (q,0)) px L a :=
 ⟨h.row,h.len,h.short,fun i o e=>by
  obtain ⟨h1,h2,h3,h4,h5⟩:=h.at' i o e
  exact ⟨h1,h2,h3,fun o' e'=>by have:=hq i o e; simp only [bi,dx] at e'; omega,h5⟩⟩
theorem Leaf.npx {N:Nat} {L:List Str} {a:Option (Nat × Nat)} {q:Nat} (h:Leaf O N pc pt px L a) (hq:∀ i o,a=some (i,o)→i < q):Leaf O N pc pt (some (q,0)) L a :=
 ⟨h.row,h.len,h.short,fun i o e=>by
  obtain ⟨h1,h2,h3,h4,h5⟩:=h.at' i o e
  exact ⟨h1,h2,h3,h4,fun o' e'=>by have:=hq i o e; simp only [bi,dx] at e'; omega⟩⟩
def killO:Option (Nat × Nat)→List AObj→List AObj
 | none,O=>O
 | some (i,_),O=>O.set i .dead
def killW:Option (Nat × Nat)→Nat→Nat
 | none,w=>w
 | some (i,_),w=>min w i
@[simp] theorem killO_len (p:Option (Nat × Nat)) (O:List AObj):(killO p O).length=O.length:=by
 cases p with
 | none=>rfl
 | some q=>obtain ⟨i,o⟩:=q; simp [killO]
theorem killW_le (p:Option (Nat × Nat)) (w:Nat):killW p w≤w:=by
 cases p with
 | none=>exact aj _
 | some q=>obtain ⟨i,o⟩:=q; exact ix ..
theorem app_own {α:Type} {e by':Nat} {f:α→List AVal} {L:List α} {p:Option (Nat × Nat)} {c:Option Nat} {N:Nat} {x:α} (hf:∀ y,(f y).length=e) (h:Own O N e f L p c) (hb:b≤N) (hl:(L.length+1)*by'≤140737488355328) (hl2:L.length≤1000000) (X:List AObj) (w:Nat) :
  aAppend e by' ⟨O++(X++[.cells e (f x)]),b,w⟩ (.slice p L.length c) (.slice (some (O.length+X.length,0)) 1 (some 1)) =
   some (.slice (some (O.length+X.length+1,0)) (L.length+1) none,⟨killO p O++(X++[.cells e (f x),.cells e ((L++[x]).flatMap f)]),b,killW p w⟩):=by
 have hfl:(L.flatMap f).length=L.length*e:=flat_len f e hf L
 have hz:rowOf e ⟨O++(X++[.cells e (f x)]),b,w⟩ (.slice (some (O.length+X.length,0)) 1 (some 1))=some (f x) :=
  rowOfC (by show (O++(X++[AObj.cells e (f x)]))[O.length+X.length]? = _; rw [dy,dp]; rfl) (by rw [hf,Nat.one_mul])
 have hs:(O++(X++[AObj.cells e (f x)])).length=O.length+X.length+1:=by simp; omega
 have he:(L++[x]).flatMap f=L.flatMap f++f x:=by simp
 cases p with
 | none =>
  obtain ⟨rfl,rfl⟩:=h.none rfl
  unfold aAppend
  simp only [hz,br,rowOf0,aApp,alen]
  have q1:¬ (1:Nat)=0:=by decide
  have q2:(0+1)*by'≤140737488355328∧0+1≤9223372036854775807:=⟨by simpa using hl,by decide⟩
  simp only [eq_false q1,eq_true q2,if_false,if_true]
  simp [Heap.push,Heap.size,killO,killW]
  omega
 | some q =>
  obtain ⟨i,o⟩:=q
  obtain ⟨rfl,rfl,h3,h4⟩:=h.some i o rfl
  have hi:=ai h4
  have h5:(O++(X++[AObj.cells e (f x)]))[i]? = some (.cells e (L.flatMap f)):=by rw [ag hi]; exact h4
  have hz1:rowOf e ⟨O++(X++[.cells e (f x)]),b,w⟩ (.slice (some (i,0)) L.length none)=some (L.flatMap f):=rowOfC h5 hfl
  have hr:rowIs ⟨O++(X++[.cells e (f x)]),b,w⟩ i e=true:=by
   unfold rowIs Heap.get
   simp only [h5]
   simp
  unfold aAppend
  simp only [hz,hz1,aApp,alen]
  have q1:¬ (1:Nat)=0:=by decide
  have q2:(L.length+1)*by'≤140737488355328∧L.length+1≤9223372036854775807:=⟨hl,by omega⟩
  have q3:¬ (none:Option Nat)=some L.length:=by simp
  have q4:(⟨O++(X++[AObj.cells e (f x)]),b,w⟩:Heap).base≤i∧rowIs ⟨O++(X++[AObj.cells e (f x)]),b,w⟩ i e=true:=⟨by show b≤i; omega,hr⟩
  simp only [eq_false q1,eq_true q2,eq_false q3,eq_true q4,if_false,if_true]
  simp only [Heap.push,Heap.put,Heap.size,killO,killW,List.set_append_left _ _ hi,List.length_set,hs,he,bh,b0,bz,aw,a8,br]
end
end Go.Abs.AbsMake

namespace Go.Abs.AbsMake
open Go.Abs.AbsDesc Go.Abs.AbsHier
variable {os O B:List AObj} {b w:Nat} {tN:Nat} {tb:List UInt8} {tv:AVal} {pc pt px:Option (Nat × Nat)} {cc ct cx:Option Nat} {C:List InsU} {S:List TrapU} {M:List MapU} {dep bud:Int}
section
variable {α:Type} {N e:Nat} {f:α→List AVal} {L:List α} {p:Option (Nat × Nat)} {c:Option Nat}
theorem Own.app (h:Own O N e f L p c) (X:List AObj):Own (O++X) N e f L p c :=
 ⟨fun i o hp=>by
  obtain ⟨h1,h2,h3,h4⟩:=h.some i o hp
  exact ⟨h1,h2,h3,by rw [ag (ai h4)]; exact h4⟩,h.none⟩
theorem Own.set (h:Own O N e f L p c) {j:Nat} (y:AObj) (hj:∀ o,p≠Option.some (j,o)):Own (O.set j y) N e f L p c :=
 ⟨fun i o hp=>by
  obtain ⟨h1,h2,h3,h4⟩:=h.some i o hp
  exact ⟨h1,h2,h3,by rw [aq (fun e=>hj o (by rw [e]; exact hp))]; exact h4⟩,h.none⟩
theorem Own.kill (h:Own O N e f L p c) {q:Option (Nat × Nat)} (hq:∀ i o o',q=Option.some (i,o)→p≠Option.some (i,o')):Own (killO q O) N e f L p c:=by
 cases q with
 | none=>exact h
 | some r=>obtain ⟨i,o⟩:=r; exact h.set _ fun o'=>hq i o o' rfl
theorem Leaf.kill {L:List Str} {a:Option (Nat × Nat)} (h:Leaf O N pc pt px L a) {q:Option (Nat × Nat)} (hq:∀ i o o',q=some (i,o)→a≠some (i,o')):Leaf (killO q O) N pc pt px L a:=by
 cases q with
 | none=>exact h
 | some r=>obtain ⟨i,o⟩:=r; exact h.set fun o'=>hq i o o' rfl
theorem jr {q:Option (Nat × Nat)} {i:Nat} (hq:∀ o,q≠some (i,o)):(killO q O)[i]? = O[i]?:=by
 cases q with
 | none=>rfl
 | some r=>obtain ⟨j,o⟩:=r; exact aq fun e=>hq o (by rw [e])
end
theorem Wr.setW (h:Wr tN tb tv B O pc pt px cc ct cx C S M dep bud) (dep' bud':Int):Wr tN tb tv B (O.set B.length (wrO tN pc pt px cc ct cx C.length S.length M.length dep' bud')) pc pt px cc ct cx C S M dep' bud' where
 keep:=fun i hi ht=>by rw [aq (by omega)]; exact h.keep i hi ht
 tape:=by
  obtain ⟨p,h1⟩:=h.tape
  exact ⟨p,by rw [aq (by have:=h.lt; omega)]; exact h1.at',h1.le,h1.small⟩
 tv:=h.tv
 lt:=h.lt
 wr:=by rw [db,if_pos rfl,if_pos h.len]
 c:=h.c.set _ fun o e=>by have:=(h.c.some _ _ e).2.2.1; omega
 s:=h.s.set _ fun o e=>by have:=(h.s.some _ _ e).2.2.1; omega
 m:=h.m.set _ fun o e=>by have:=(h.m.some _ _ e).2.2.1; omega
 cs:=h.cs
 cm:=h.cm
 sm:=h.sm
 cok:=h.cok
 sok:=h.sok
 mok:=fun x hx=>⟨(h.mok x hx).1.set fun o e=>by have:=((h.mok x hx).1.at' _ _ e).1; omega,(h.mok x hx).2.set fun o e=>by have:=((h.mok x hx).2.at' _ _ e).1; omega⟩
theorem Wr.setT (h:Wr tN tb tv B O pc pt px cc ct cx C S M dep bud) {p:Nat} (hp:p≤tb.length):Wr tN tb tv B (O.set tN (tapeO tv p)) pc pt px cc ct cx C S M dep bud where
 keep:=fun i hi ht=>by rw [aq (by omega)]; exact h.keep i hi ht
 tape:=by
  obtain ⟨q,h1⟩:=h.tape
  exact ⟨p,by rw [db,if_pos rfl,if_pos (by have:=h.lt; have:=h.len; omega)],hp,h1.small⟩
 tv:=h.tv
 lt:=h.lt
 wr:=by rw [aq (by have:=h.lt; omega)]; exact h.wr
 c:=h.c.set _ fun o e=>by have:=(h.c.some _ _ e).2.2.1; have:=h.lt; omega
 s:=h.s.set _ fun o e=>by have:=(h.s.some _ _ e).2.2.1; have:=h.lt; omega
 m:=h.m.set _ fun o e=>by have:=(h.m.some _ _ e).2.2.1; have:=h.lt; omega
 cs:=h.cs
 cm:=h.cm
 sm:=h.sm
 cok:=h.cok
 sok:=h.sok
 mok:=fun x hx=>⟨(h.mok x hx).1.set fun o e=>by have:=((h.mok x hx).1.at' _ _ e).1; have:=h.lt; omega,(h.mok x hx).2.set fun o e=>by have:=((h.mok x hx).2.at' _ _ e).1; have:=h.lt; omega⟩
theorem Wr.app (h:Wr tN tb tv B O pc pt px cc ct cx C S M dep bud) (X:List AObj):Wr tN tb tv B (O++X) pc pt px cc ct cx C S M dep bud where
 keep:=fun i hi ht=>by have:=h.len; rw [ag (by omega)]; exact h.keep i hi ht
 tape:=by
  obtain ⟨p,h1⟩:=h.tape
  exact ⟨p,by rw [ag (ai h1.at')]; exact h1.at',h1.le,h1.small⟩
 tv:=h.tv
 lt:=h.lt
 wr:=by rw [ag h.len]; exact h.wr
 c:=h.c.app X
 s:=h.s.app X
 m:=h.m.app X
 cs:=h.cs
 cm:=h.cm
 sm:=h.sm
 cok:=h.cok
 sok:=h.sok
 mok:=fun x hx=>⟨(h.mok x hx).1.app X,(h.mok x hx).2.app X⟩
theorem Wr.addC (h:Wr tN tb tv B O pc pt px cc ct cx C S M dep bud) {x:InsU} (hx:InsU.short x) (X:List AObj) :
  Wr tN tb tv B ((killO pc O++(X++[AObj.cells 7 x.cells,AObj.cells 7 ((C++[x]).flatMap InsU.cells)])).set B.length (wrO tN (some (O.length+X.length+1,0)) pt px none ct cx (C.length+1) S.length M.length dep bud)) (some (O.length+X.length+1,0)) pt px none ct cx (C++[x]) S M dep bud:=by
 have hl:=h.len
 have hlt:=h.lt
 have hN:∀ o,pc≠some (B.length,o):=fun o e=>by have:=(h.c.some _ _ e).2.2.1; omega
 have hw:∀ Y,(killO pc O++Y)[B.length]? = some (wrO tN pc pt px cc ct cx C.length S.length M.length dep bud):=fun Y=>by
  rw [ag (by simpa using hl),jr hN]; exact h.wr
 have hlen:((killO pc O)++(X++[AObj.cells 7 x.cells,AObj.cells 7 ((C++[x]).flatMap InsU.cells)])).length=O.length+X.length+2:=by simp; omega
 constructor
 ·intro i hi ht
  rw [aq (by omega),ag (by simp; omega),jr fun o e=>by have:=(h.c.some _ _ e).2.2.1; omega]
  exact h.keep i hi ht
 ·obtain ⟨p,h1⟩:=h.tape
  exact ⟨p,by
   rw [aq (by omega),ag (by simp; omega),jr fun o e=>by have:=(h.c.some _ _ e).2.2.1; omega]
   exact h1.at',h1.le,h1.small⟩
 ·exact h.tv
 ·exact h.lt
 ·rw [db,if_pos rfl,if_pos (by omega)]
  simp
 ·refine ⟨fun i o e=>?_,fun e=>by cases e⟩
  simp only [bi,dx] at e
  obtain ⟨rfl,rfl⟩:=e
  refine ⟨rfl,rfl,by omega,?_⟩
  rw [aq (by omega),ak (by simp; omega)]
  have:O.length+X.length+1 - (killO pc O).length=X.length+1:=by simp; omega
  rw [this,dy]; rfl
 ·exact ((h.s.kill fun i o o' e=>h.cs i o o' e).app _).set _ fun o e=>by have:=(h.s.some _ _ e).2.2.1; omega
 ·exact ((h.m.kill fun i o o' e=>h.cm i o o' e).app _).set _ fun o e=>by have:=(h.m.some _ _ e).2.2.1; omega
 ·intro i o o' e e'
  have:=ai (h.s.some _ _ e').2.2.2
  simp only [bi,dx] at e
  omega
 ·intro i o o' e e'
  have:=ai (h.m.some _ _ e').2.2.2
  simp only [bi,dx] at e
  omega
 ·exact h.sm
 ·intro y hy
  rcases bo.1 hy with hy | hy
  ·exact h.cok y hy
  ·rw [du.1 hy]; exact hx
 ·exact h.sok
 ·intro y hy
  obtain ⟨h1,h2⟩:=h.mok y hy
  have go:∀ {L:List Str} {a:Option (Nat × Nat)},Leaf O B.length pc pt px L a→Leaf ((killO pc O++(X++[AObj.cells 7 x.cells,AObj.cells 7 ((C++[x]).flatMap InsU.cells)])).set B.length (wrO tN (some (O.length+X.length+1,0)) pt px none ct cx (C.length+1) S.length M.length dep bud)) B.length (some (O.length+X.length+1,0)) pt px L a:=fun hL =>
   (((hL.kill fun i o o' e e'=>(hL.at' _ _ e').2.2.1 _ e).app _).set fun o e=>by have:=(hL.at' _ _ e).1; omega).npc fun i o e=>by have:=(hL.at' _ _ e).2.1; omega
  exact ⟨go h1,go h2⟩
end Go.Abs.AbsMake

namespace Go.Abs.AbsMake
open Go.Abs.AbsDesc Go.Abs.AbsHier
variable {os O B:List AObj} {b w:Nat} {tN:Nat} {tb:List UInt8} {tv:AVal} {n k:Nat} {dep:Int}
def Did (tN:Nat) (tb:List UInt8) (tv:AVal) (B:List AObj) (b:Nat) (g:Nat) (args:List AVal) (v:AVal) (O:List AObj) (P:List AObj→Prop):Prop :=
 ∃ O' m,P O'∧tN≤m∧m≤B.length∧∀ w,xCall T g args ⟨O,b,w⟩=some (v,⟨O',b,min w m⟩)
theorem Ws.code (h:Ws tN tb tv B O n k dep) (hb:b≤tN) (hk:k≤100000) {x:InsU} (hx:InsU.short x) :
  ∃ pc pt px cc ct cx nt nx bud cs,O[B.length]? = some (.cells 6 [.ptr (some (tN,0)),.slice pc n cc,.slice pt nt ct,.slice px nx cx,.int .i64 dep,.int .i64 bud])∧tN < B.length∧B.length < O.length∧(∀ w,w≤B.length→killW pc w=w)∧(∀ w,B.length≤w→B.length≤killW pc w) ∧
   (killO pc O)[B.length]? = some (.cells 6 [.ptr (some (tN,0)),.slice pc n cc,.slice pt nt ct,.slice px nx cx,.int .i64 dep,.int .i64 bud]) ∧
   (∀ w,aAppend 7 88 ⟨O++[AObj.cells 7 x.cells],b,w⟩ (.slice pc n cc) (.slice (some (O.length,0)) 1 (some 1))=some (.slice (some (O.length+1,0)) (n+1) none,⟨killO pc O++[AObj.cells 7 x.cells,AObj.cells 7 cs],b,killW pc w⟩)) ∧
   Ws tN tb tv B ((killO pc O++[AObj.cells 7 x.cells,AObj.cells 7 cs]).set B.length (.cells 6 [.ptr (some (tN,0)),.slice (some (O.length+1,0)) (n+1) none,.slice pt nt ct,.slice px nx cx,.int .i64 dep,.int .i64 bud])) (n+1) (k+1) dep:=by
 obtain ⟨pc,pt,px,cc,ct,cx,C,S,M,bud,hW,rfl,h2,h3,h4⟩:=h.ex
 have h1:=app_own (b:=b) (by':=88) (x:=x) (f:=InsU.cells) (fun _=>rfl) hW.c (by have:=hW.lt; omega) (by omega) (by omega) []
 have h5:=hW.addC hx []
 simp only [bz,br,gt] at h1 h5
 refine ⟨pc,pt,px,cc,ct,cx,S.length,M.length,bud,_,hW.wr,hW.lt,hW.len,fun w hw=>?_,fun w hw=>?_,?_,h1,⟨_,_,_,_,_,_,_,_,_,_,h5,by simp,by omega,by omega,by omega⟩⟩
 ·cases pc with
  | none=>rfl
  | some q=>obtain ⟨i,o⟩:=q; have:=(hW.c.some _ _ rfl).2.2.1; simp only [killW]; omega
 ·cases pc with
  | none=>exact hw
  | some q=>obtain ⟨i,o⟩:=q; have:=(hW.c.some _ _ rfl).2.2.1; simp only [killW]; omega
 ·rw [jr fun o e=>by have:=(hW.c.some _ _ e).2.2.1; omega]; exact hW.wr
section
attribute [-simp] getElem?_pos getElem?_neg List.all_eq_true
attribute [local simp] gz gs nltT nltF iltT iltF ileT nleT df
theorem s150 (h:Ws tN tb tv B O n k dep) (hb:b≤tN) (hk:k≤100000) {op nn:Int} :
  Did tN tb tv B b 150 [.ptr (some (B.length,0)),.int .u8 op,.int .i64 nn] (.tuple []) O fun O'=>Ws tN tb tv B O' (n+1) (k+1) dep:=by
 obtain ⟨pc,pt,px,cc,ct,cx,nt,nx,bud,cs,h1,h2,h3,h4,h5,h6,h7,h8⟩:=h.code (x:=⟨op,nn,0,[],[],[],[]⟩) hb hk ⟨by simp,by simp,by simp,by simp⟩
 refine ⟨_,B.length,h8,by omega,aj _,fun w=>?_⟩
 have hkw:=h5 O.length (by omega)
 have h9:∀ X,(killO pc O++X)[B.length]? = _:=fun X=>(ag (l₂:=X) (by simpa using h3)).trans h6
 simp only [InsU.cells] at h7
 simp (disch:=omega) [av t150,code150,-aAppend,h1,h7,h6,h9,hkw,InsU.cells]
theorem s154 (h:Ws tN tb tv B O n k dep) (hb:b≤tN) (hk:k≤100000) {op:Int} {c m d:Str} (hc:c.length≤100) (hm:m.length≤100) (hd:d.length≤100) :
  Did tN tb tv B b 154 [.ptr (some (B.length,0)),.int .u8 op,.str c,.str m,.str d] (.tuple []) O fun O'=>Ws tN tb tv B O' (n+1) (k+1) dep:=by
 obtain ⟨pc,pt,px,cc,ct,cx,nt,nx,bud,cs,h1,h2,h3,h4,h5,h6,h7,h8⟩:=h.code (x:=⟨op,0,0,c,m,d,[]⟩) hb hk ⟨hc,hm,hd,by simp⟩
 refine ⟨_,B.length,h8,by omega,aj _,fun w=>?_⟩
 have hkw:=h5 O.length (by omega)
 have h9:∀ X,(killO pc O++X)[B.length]? = _:=fun X=>(ag (l₂:=X) (by simpa using h3)).trans h6
 simp only [InsU.cells] at h7
 simp (disch:=omega) [av t154,code154,-aAppend,h1,h7,h6,h9,hkw,InsU.cells]
end
theorem Ws.len (h:Ws tN tb tv B O n k dep):tN < B.length∧B.length < O.length:=by
 obtain ⟨_,_,_,_,_,_,_,_,_,_,hW,_⟩:=h.ex
 exact ⟨hW.lt,hW.len⟩
theorem Ws.app (h:Ws tN tb tv B O n k dep) (X:List AObj):Ws tN tb tv B (O++X) n k dep:=by
 obtain ⟨_,_,_,_,_,_,_,_,_,_,hW,h1⟩:=h.ex
 exact ⟨_,_,_,_,_,_,_,_,_,_,hW.app X,h1⟩
theorem Ws.le (h:Ws tN tb tv B O n k dep) {k':Nat} (hk:k≤k'):Ws tN tb tv B O n k' dep:=by
 obtain ⟨_,_,_,_,_,_,_,_,_,_,hW,h1,h2,h3,h4⟩:=h.ex
 exact ⟨_,_,_,_,_,_,_,_,_,_,hW,h1,by omega,by omega,by omega⟩
theorem Ws.at' (h:Ws tN tb tv B O n k dep):∃ pc pt px cc ct cx nt nx bud,O[B.length]? = some (.cells 6 [.ptr (some (tN,0)),.slice pc n cc,.slice pt nt ct,.slice px nx cx,.int .i64 dep,.int .i64 bud]) ∧
  ∀ dep' bud',Ws tN tb tv B (O.set B.length (.cells 6 [.ptr (some (tN,0)),.slice pc n cc,.slice pt nt ct,.slice px nx cx,.int .i64 dep',.int .i64 bud'])) n k dep':=by
 obtain ⟨pc,pt,px,cc,ct,cx,C,S,M,bud,hW,rfl,h2,h3,h4⟩:=h.ex
 exact ⟨pc,pt,px,cc,ct,cx,S.length,M.length,bud,hW.wr,fun dep' bud'=>⟨_,_,_,_,_,_,_,_,_,_,hW.setW dep' bud',rfl,h2,h3,h4⟩⟩
theorem Ws.next (h:Ws tN tb tv B O n k dep) (hb:b≤tN) {x:Int} (hx:1≤x) (hx2:x≤1000) :
  ∃ (r:Nat) (O':List AObj) (nx:Nat→Nat),(r:Int) < x∧Ws tN tb tv B O' n k dep∧O'.length=O.length∧(∀ i,i≠tN→O'[i]? = O[i]?)∧((∀ w,nx w=w)∨(∀ w,nx w=min w tN))∧∀ w,xCall T 102 [.ptr (some (tN,0)),.int .i64 x] ⟨O,b,w⟩=some (.int .i64 r,⟨O',b,nx w⟩):=by
 obtain ⟨pc,pt,px,cc,ct,cx,C,S,M,bud,hW,h1⟩:=h.ex
 obtain ⟨p,hp⟩:=hW.tape
 have hv:TapeV O tN tb tv:=by
  obtain ⟨a,c,e,hr,hd⟩:=hW.tv.row
  refine ⟨a,c,e,⟨fun hne=>?_⟩,hd⟩
  obtain ⟨i,o,cs,e1,e2,e3⟩:=hr.at' hne
  exact ⟨i,o,cs,e1,by rw [hW.keep i (ai e2) (hd i o e1)]; exact e2,e3⟩
 obtain ⟨r,p',nx,q1,q2,q3,q4⟩:=s102 hp hv hb hx hx2
 exact ⟨r,_,nx,q1,⟨_,_,_,_,_,_,_,_,_,_,hW.setT q2,h1⟩,by simp,fun i hi=>aq (Ne.symm hi),q3,q4⟩
theorem gm {nx:Nat→Nat} (hx:(∀ w,nx w=w)∨(∀ w,nx w=min w tN)) {m:Nat} (hm:tN≤m):∃ m',tN≤m'∧m'≤m∧∀ w,min (nx w) m=min w m':=by
 rcases hx with h | h
 ·exact ⟨m,hm,aj _,fun w=>by rw [h]⟩
 ·exact ⟨tN,aj _,hm,fun w=>by rw [h]; omega⟩
theorem nx_le {nx:Nat→Nat} (hx:(∀ w,nx w=w)∨(∀ w,nx w=min w tN)) (w:Nat):nx w≤w:=by
 rcases hx with h | h
 ·rw [h]; exact aj _
 ·rw [h]; exact ix ..
section
attribute [-simp] getElem?_pos getElem?_neg List.all_eq_true
attribute [local simp] gz gs nltT nltF iltT iltF ileT nleT df
theorem s153 (h:Ws tN tb tv B O n k dep) (hb:b≤tN) (hk:k≤100000) {x:Int} (hx:-100≤x) (hx2:x≤200) :
  Did tN tb tv B b 153 [.ptr (some (B.length,0)),.int .i64 x] (.tuple []) O fun O'=>Ws tN tb tv B O' (n+1) (k+1) dep:=by
 obtain ⟨_,hBO⟩:=h.len
 have c5:-128≤x:=by omega
 have c6:-32768≤x:=by omega
 have c7:x < 32768:=by omega
 have c8:IntKind.i64.wrap (3+x)=3+x:=df (by omega)
 by_cases c3:-1≤x∧x≤5
 ·obtain ⟨c1,c2⟩:=c3
  obtain ⟨O1,m1,p1,l1,u1,e1⟩:=s150 h hb hk (op:=IntKind.u8.wrap (3+x)) (nn:=0)
  refine ⟨O1,m1,p1,l1,u1,fun w=>?_⟩
  simp (disch:=omega) [av t153,code153,e1,c1,c2,c8]
 ·by_cases c4:x < 128
  ·obtain ⟨O1,m1,p1,l1,u1,e1⟩:=s150 h hb hk (op:=16) (nn:=x)
   refine ⟨O1,m1,p1,l1,u1,fun w=>?_⟩
   by_cases c1:-1≤x
   ·have c2:¬ x≤5:=fun e=>c3 ⟨c1,e⟩
    simp (disch:=omega) [av t153,code153,e1,c1,c2,c4,c5]
   ·simp (disch:=omega) [av t153,code153,e1,c1,c4,c5]
  ·obtain ⟨O1,m1,p1,l1,u1,e1⟩:=s150 h hb hk (op:=17) (nn:=x)
   refine ⟨O1,m1,p1,l1,u1,fun w=>?_⟩
   have c1:-1≤x:=by omega
   have c2:¬ x≤5:=by omega
   simp (disch:=omega) [av t153,code153,e1,c1,c2,c4,c5,c6,c7]
end
theorem bytes_get (L:List Int) {r:Nat} (hr:r < L.length):∃ y,(L.map (AVal.int .u8))[r]? = some (.int .u8 y):=by
 rw [cr,ah hr]
 exact ⟨_,rfl⟩
def KK:Nat→Nat
 | 0=>2
 | d+1=>2*KK d+1
def Expr (tN:Nat) (tb:List UInt8) (tv:AVal) (B:List AObj) (b:Nat) (dep:Int) (g:Nat) (x:Int) (j:Nat):Prop :=
 ∀ (O:List AObj) (n k:Nat),Ws tN tb tv B O n k dep→k+j≤100000→Did tN tb tv B b g [.ptr (some (B.length,0)),.int .i64 x] (.tuple []) O fun O'=>∃ n',n≤n'∧Ws tN tb tv B O' n' (k+j) dep
def acts151:List Int:=[96,100,104,108,126,130,120,112,128,124]
theorem Ws.put (h:Ws tN tb tv B O n k dep) (hb:b≤tN) (hk:k≤100000) {x:InsU} (hx:InsU.short x) :
  ∃ pc pt px cc ct cx nt nx bud cs,O[B.length]? = some (.cells 6 [.ptr (some (tN,0)),.slice pc n cc,.slice pt nt ct,.slice px nx cx,.int .i64 dep,.int .i64 bud]) ∧
   (killO pc O)[B.length]? = some (.cells 6 [.ptr (some (tN,0)),.slice pc n cc,.slice pt nt ct,.slice px nx cx,.int .i64 dep,.int .i64 bud]) ∧
   (∀ X,(killO pc O++X)[B.length]? = some (.cells 6 [.ptr (some (tN,0)),.slice pc n cc,.slice pt nt ct,.slice px nx cx,.int .i64 dep,.int .i64 bud])) ∧
   (∀ w,aAppend 7 88 ⟨O++[AObj.cells 7 x.cells],b,w⟩ (.slice pc n cc) (.slice (some (O.length,0)) 1 (some 1))=some (.slice (some (O.length+1,0)) (n+1) none,⟨killO pc O++[AObj.cells 7 x.cells,AObj.cells 7 cs],b,killW pc w⟩)) ∧
   (∀ w,min (killW pc w) B.length=min w B.length)∧(∀ w,B.length≤w→B.length≤killW pc w)∧(∀ w,killW pc w≤w) ∧
   Ws tN tb tv B ((killO pc O++[AObj.cells 7 x.cells,AObj.cells 7 cs]).set B.length (.cells 6 [.ptr (some (tN,0)),.slice (some (O.length+1,0)) (n+1) none,.slice pt nt ct,.slice px nx cx,.int .i64 dep,.int .i64 bud])) (n+1) (k+1) dep:=by
 obtain ⟨pc,pt,px,cc,ct,cx,nt,nx,bud,cs,h1,h2,h3,h4,h5,h6,h7,h8⟩:=h.code (b:=b) (x:=x) hb hk hx
 exact ⟨pc,pt,px,cc,ct,cx,nt,nx,bud,cs,h1,h6,fun X=>(ag (l₂:=X) (by simpa using h3)).trans h6,h7,fun w=>by
  rcases Nat.le_total w B.length with q | q
  ·rw [h4 w q]
  ·have:=h5 w q; omega,h5,killW_le pc,h8⟩
theorem Ws.lows (h:Ws tN tb tv B O n k dep) {t d bd:AVal} {n' nt nx:Nat} {pc pt px:Option (Nat × Nat)} {cc ct cx:Option Nat} (h1:O[B.length]? = some (.cells 6 [t,.slice pc n' cc,.slice pt nt ct,.slice px nx cx,d,bd])) :
  (∀ i o,pc=some (i,o)→i < O.length∧B.length < i)∧(∀ i o,pt=some (i,o)→i < O.length∧B.length < i)∧(∀ i o,px=some (i,o)→i < O.length∧B.length < i):=by
 obtain ⟨_,_,_,_,_,_,_,_,_,_,hW,_⟩:=h.ex
 have e:=hW.wr.symm.trans h1
 simp only [wrO,bi,AObj.cells.injEq,iy,AVal.slice.injEq,true_and,and_true] at e
 obtain ⟨_,⟨e1,_⟩,⟨e2,_⟩,⟨e3,_⟩,_⟩:=e
 subst e1 e2 e3
 exact ⟨fun i o e=>⟨ai (hW.c.some i o e).2.2.2,(hW.c.some i o e).2.2.1⟩,fun i o e=>⟨ai (hW.s.some i o e).2.2.2,(hW.s.some i o e).2.2.1⟩,fun i o e=>⟨ai (hW.m.some i o e).2.2.2,(hW.m.some i o e).2.2.1⟩⟩
theorem ids_ins:∀ C:List InsU,AVal.idsL (C.flatMap InsU.cells)=[]
 | []=>rfl
 | x :: C=>by rw [co,idsL_app,ids_ins C]; simp [InsU.cells,AVal.idsL,AVal.ids]
theorem Ws.codeIds (h:Ws tN tb tv B O n k dep) {t d bd:AVal} {n' nt nx q o:Nat} {pt px:Option (Nat × Nat)} {cc ct cx:Option Nat} {cs:List AVal} (h1:O[B.length]? = some (.cells 6 [t,.slice (some (q,o)) n' cc,.slice pt nt ct,.slice px nx cx,d,bd])) (h2:O[q]? = some (.cells 7 cs)):AVal.idsL cs=[]:=by
 obtain ⟨_,_,_,_,_,_,_,_,_,_,hW,_⟩:=h.ex
 have e:=hW.wr.symm.trans h1
 simp only [wrO,bi,AObj.cells.injEq,iy,AVal.slice.injEq,true_and,and_true] at e
 obtain ⟨_,⟨e1,_⟩,_⟩:=e
 subst e1
 have:=(hW.c.some _ _ rfl).2.2.2
 rw [h2,bi,AObj.cells.injEq] at this
 rw [this.2,ids_ins]
theorem okSl {n0 m q:Nat} {ds:List _root_.Go.Abs.Did} {p:Option (Nat × Nat)} {c:Option Nat} (h:∀ i o,p=some (i,o)→i < n0):(AVal.slice p q c).ids.all (okId n0 m ds)=true:=by
 cases p with
 | none=>rfl
 | some x=>obtain ⟨i,o⟩:=x; simp [AVal.ids,okId,h i o rfl]
theorem KK_pos (d:Nat):2≤KK d:=by
 cases d with
 | zero=>exact aj _
 | succ d=>have:=KK_pos d; simp only [KK]; omega
end Go.Abs.AbsMake

namespace Go.Abs.AbsMake
open Go.Abs.AbsDesc Go.Abs.AbsHier
variable {os O B:List AObj} {b w:Nat} {tN:Nat} {tb:List UInt8} {tv:AVal} {pc pt px:Option (Nat × Nat)} {cc ct cx:Option Nat} {C:List InsU} {S:List TrapU} {M:List MapU} {dep bud:Int} {n k:Nat}
theorem Wr.addM (h:Wr tN tb tv B O pc pt px cc ct cx C S M dep bud) {x:MapU} (X:List AObj) (hx1:Leaf (O++X) B.length pc pt px x.locals x.la) (hx2:Leaf (O++X) B.length pc pt px x.stack x.sa) :
  Wr tN tb tv B ((killO px O++(X++[AObj.cells 3 x.cells,AObj.cells 3 ((M++[x]).flatMap MapU.cells)])).set B.length (wrO tN pc pt (some (O.length+X.length+1,0)) cc ct none C.length S.length (M.length+1) dep bud)) pc pt (some (O.length+X.length+1,0)) cc ct none C S (M++[x]) dep bud:=by
 have hl:=h.len
 have hlt:=h.lt
 have hN:∀ o,px≠some (B.length,o):=fun o e=>by have:=(h.m.some _ _ e).2.2.1; omega
 have hlen:((killO px O)++(X++[AObj.cells 3 x.cells,AObj.cells 3 ((M++[x]).flatMap MapU.cells)])).length=O.length+X.length+2:=by simp; omega
 constructor
 ·intro i hi ht
  rw [aq (by omega),ag (by simp; omega),jr fun o e=>by have:=(h.m.some _ _ e).2.2.1; omega]
  exact h.keep i hi ht
 ·obtain ⟨p,h1⟩:=h.tape
  exact ⟨p,by
   rw [aq (by omega),ag (by simp; omega),jr fun o e=>by have:=(h.m.some _ _ e).2.2.1; omega]
   exact h1.at',h1.le,h1.small⟩
 ·exact h.tv
 ·exact h.lt
 ·rw [db,if_pos rfl,if_pos (by omega)]
  simp
 ·exact ((h.c.kill fun i o o' e e'=>h.cm i o' o e' e).app _).set _ fun o e=>by have:=(h.c.some _ _ e).2.2.1; omega
 ·exact ((h.s.kill fun i o o' e e'=>h.sm i o' o e' e).app _).set _ fun o e=>by have:=(h.s.some _ _ e).2.2.1; omega
 ·refine ⟨fun i o e=>?_,fun e=>by cases e⟩
  simp only [bi,dx] at e
  obtain ⟨rfl,rfl⟩:=e
  refine ⟨rfl,rfl,by omega,?_⟩
  rw [aq (by omega),ak (by simp; omega)]
  have:O.length+X.length+1 - (killO px O).length=X.length+1:=by simp; omega
  rw [this,dy]; rfl
 ·exact h.cs
 ·intro i o o' e e'
  have:=ai (h.c.some _ _ e).2.2.2
  simp only [bi,dx] at e'
  omega
 ·intro i o o' e e'
  have:=ai (h.s.some _ _ e).2.2.2
  simp only [bi,dx] at e'
  omega
 ·exact h.cok
 ·exact h.sok
 ·intro y hy
  have go:∀ {L:List Str} {a:Option (Nat × Nat)},Leaf (O++X) B.length pc pt px L a→Leaf ((killO px O++(X++[AObj.cells 3 x.cells,AObj.cells 3 ((M++[x]).flatMap MapU.cells)])).set B.length (wrO tN pc pt (some (O.length+X.length+1,0)) cc ct none C.length S.length (M.length+1) dep bud)) B.length pc pt (some (O.length+X.length+1,0)) L a:=fun {L a} hL=>by
   have e1:killO px O++(X++[AObj.cells 3 x.cells,AObj.cells 3 ((M++[x]).flatMap MapU.cells)])=killO px (O++X)++[AObj.cells 3 x.cells,AObj.cells 3 ((M++[x]).flatMap MapU.cells)]:=by
    cases px with
    | none=>simp [killO]
    | some q =>
     obtain ⟨i,o⟩:=q
     have:=ai (h.m.some _ _ rfl).2.2.2
     simp only [killO,List.set_append_left _ _ this,bh]
   rw [e1]
   exact (((hL.kill fun i o o' e e'=>(hL.at' _ _ e').2.2.2.2 _ e).app _).set fun o e=>by have:=(hL.at' _ _ e).1; omega).npx fun i o e=>by have:=(hL.at' _ _ e).2.1; simp at this; omega
  rcases bo.1 hy with hy | hy
  ·obtain ⟨h1,h2⟩:=h.mok y hy
   exact ⟨go (h1.app X),go (h2.app X)⟩
  ·rw [du.1 hy]
   exact ⟨go hx1,go hx2⟩
theorem Wr.addS (h:Wr tN tb tv B O pc pt px cc ct cx C S M dep bud) {x:TrapU} (hx:x.cls ∈ classesT) (X:List AObj) :
  Wr tN tb tv B ((killO pt O++(X++[AObj.cells 4 x.cells,AObj.cells 4 ((S++[x]).flatMap TrapU.cells)])).set B.length (wrO tN pc (some (O.length+X.length+1,0)) px cc none cx C.length (S.length+1) M.length dep bud)) pc (some (O.length+X.length+1,0)) px cc none cx C (S++[x]) M dep bud:=by
 have hl:=h.len
 have hlt:=h.lt
 have hN:∀ o,pt≠some (B.length,o):=fun o e=>by have:=(h.s.some _ _ e).2.2.1; omega
 have hlen:((killO pt O)++(X++[AObj.cells 4 x.cells,AObj.cells 4 ((S++[x]).flatMap TrapU.cells)])).length=O.length+X.length+2:=by simp; omega
 constructor
 ·intro i hi ht
  rw [aq (by omega),ag (by simp; omega),jr fun o e=>by have:=(h.s.some _ _ e).2.2.1; omega]
  exact h.keep i hi ht
 ·obtain ⟨p,h1⟩:=h.tape
  exact ⟨p,by
   rw [aq (by omega),ag (by simp; omega),jr fun o e=>by have:=(h.s.some _ _ e).2.2.1; omega]
   exact h1.at',h1.le,h1.small⟩
 ·exact h.tv
 ·exact h.lt
 ·rw [db,if_pos rfl,if_pos (by omega)]
  simp
 ·exact ((h.c.kill fun i o o' e e'=>h.cs i o' o e' e).app _).set _ fun o e=>by have:=(h.c.some _ _ e).2.2.1; omega
 ·refine ⟨fun i o e=>?_,fun e=>by cases e⟩
  simp only [bi,dx] at e
  obtain ⟨rfl,rfl⟩:=e
  refine ⟨rfl,rfl,by omega,?_⟩
  rw [aq (by omega),ak (by simp; omega)]
  have:O.length+X.length+1 - (killO pt O).length=X.length+1:=by simp; omega
  rw [this,dy]; rfl
 ·exact ((h.m.kill fun i o o' e=>h.sm i o o' e).app _).set _ fun o e=>by have:=(h.m.some _ _ e).2.2.1; omega
 ·intro i o o' e e'
  have:=ai (h.c.some _ _ e).2.2.2
  simp only [bi,dx] at e'
  omega
 ·exact h.cm
 ·intro i o o' e e'
  have:=ai (h.m.some _ _ e').2.2.2
  simp only [bi,dx] at e
  omega
 ·exact h.cok
 ·intro y hy
  rcases bo.1 hy with hy | hy
  ·exact h.sok y hy
  ·rw [du.1 hy]; exact hx
 ·intro y hy
  obtain ⟨h1,h2⟩:=h.mok y hy
  have go:∀ {L:List Str} {a:Option (Nat × Nat)},Leaf O B.length pc pt px L a→Leaf ((killO pt O++(X++[AObj.cells 4 x.cells,AObj.cells 4 ((S++[x]).flatMap TrapU.cells)])).set B.length (wrO tN pc (some (O.length+X.length+1,0)) px cc none cx C.length (S.length+1) M.length dep bud)) B.length pc (some (O.length+X.length+1,0)) px L a:=fun hL =>
   (((hL.kill fun i o o' e e'=>(hL.at' _ _ e').2.2.2.1 _ e).app _).set fun o e=>by have:=(hL.at' _ _ e).1; omega).npt fun i o e=>by have:=(hL.at' _ _ e).2.1; omega
  exact ⟨go h1,go h2⟩
theorem flat_set {α:Type} {e:Nat} {f:α→List AVal} (hf:∀ y,(f y).length=e):∀ (L:List α) (i j:Nat) (x y:α) (v:AVal),L[i]? = some x→j < e→(f x).set j v=f y→(L.flatMap f).set (i*e+j) v=(L.set i y).flatMap f
 | [],i,j,x,y,v,h,_,_=>by simp at h
 | a :: L,0,j,x,y,v,h,hj,hy=>by
  simp only [ba,bi] at h
  subst h
  rw [co,Nat.zero_mul,dv,List.set_append_left _ _ (by rw [hf]; exact hj),hy,List.set_cons_zero,co]
 | a :: L,i+1,j,x,y,v,h,hj,hy=>by
  simp only [gu] at h
  have e1:(i+1)*e+j=(f a).length+(i*e+j):=by rw [hf,fm,Nat.one_mul]; omega
  rw [co,e1,List.set_append_right _ _ (by omega),Nat.add_sub_cancel_left,flat_set hf L i j x y v h hj hy,List.set_cons_succ,co]
theorem Wr.setN (h:Wr tN tb tv B O pc pt px cc ct cx C S M dep bud) {q o i:Nat} (hp:pc=some (q,o)) (hi:i < C.length) (z:Int) :
  ∃ C',C'.length=C.length∧Wr tN tb tv B (O.set q (.cells 7 ((C.flatMap InsU.cells).set (i*7+1) (.int .i64 z)))) pc pt px cc ct cx C' S M dep bud:=by
 obtain ⟨x,hx⟩:∃ x,C[i]? = some x:=⟨_,ah hi⟩
 obtain ⟨h1,h2,h3,h4⟩:=h.c.some q o hp
 have hlt:=h.lt
 have hql:=ai h4
 refine ⟨C.set i { x with n:=z },by simp,?_⟩
 rw [flat_set (e:=7) (fun _=>rfl) C i 1 x { x with n:=z } (.int .i64 z) hx (by decide) rfl]
 constructor
 ·intro j hj ht
  rw [aq (by omega)]
  exact h.keep j hj ht
 ·obtain ⟨p,h5⟩:=h.tape
  exact ⟨p,by rw [aq (by omega)]; exact h5.at',h5.le,h5.small⟩
 ·exact h.tv
 ·exact h.lt
 ·rw [aq (by omega),List.length_set]; exact h.wr
 ·refine ⟨fun i' o' e=>?_,fun e=>by rw [hp] at e; cases e⟩
  have e':=hp.symm.trans e
  simp only [bi,dx] at e'
  obtain ⟨rfl,rfl⟩:=e'
  exact ⟨h1,h2,h3,by rw [db,if_pos rfl,if_pos hql]⟩
 ·exact h.s.set _ fun o' e=>h.cs _ _ _ hp e
 ·exact h.m.set _ fun o' e=>h.cm _ _ _ hp e
 ·exact h.cs
 ·exact h.cm
 ·exact h.sm
 ·intro y hy
  rcases List.mem_or_eq_of_mem_set hy with hy | hy
  ·exact h.cok y hy
  ·have:=h.cok x (az hx)
   rw [hy]
   exact ⟨this.cls,this.name,this.desc,this.text⟩
 ·exact h.sok
 ·exact fun y hy=>⟨(h.mok y hy).1.set fun o' e=>((h.mok y hy).1.at' _ _ e).2.2.1 _ hp,(h.mok y hy).2.set fun o' e=>((h.mok y hy).2.at' _ _ e).2.2.1 _ hp⟩
end Go.Abs.AbsMake

namespace Go.Abs.AbsMake
open Go.Abs.AbsDesc Go.Abs.AbsHier
variable {os O B:List AObj} {b w:Nat} {tN:Nat} {tb:List UInt8} {tv:AVal} {pc pt px:Option (Nat × Nat)} {cc ct cx:Option Nat} {C:List InsU} {S:List TrapU} {M:List MapU} {dep bud:Int} {n k:Nat}
theorem leaf0 {N:Nat}:Leaf O N pc pt px [] none:=⟨⟨fun h=>absurd rfl h⟩,by decide,by simp,fun _ _ e=>by cases e⟩
theorem Wr.leaf1 (h:Wr tN tb tv B O pc pt px cc ct cx C S M dep bud) {q:Nat} {L:List Str} (hq:B.length < q) (hO:O[q]? = some (.cells 1 (L.flatMap strC))) (hl:L.length≤100) (hs:∀ t ∈ L,t.length≤100):Leaf O B.length pc pt px L (some (q,0)) :=
 ⟨Row.mk0 (fun _=>rfl) hO,hl,hs,fun i o e=>by
  simp only [bi,dx] at e
  obtain ⟨rfl,rfl⟩:=e
  refine ⟨hq,ai hO,fun o' e=>?_,fun o' e=>?_,fun o' e=>?_⟩
  ·have:=(h.c.some _ _ e).2.2.2; rw [hO] at this; simp at this
  ·have:=(h.s.some _ _ e).2.2.2; rw [hO] at this; simp at this
  ·have:=(h.m.some _ _ e).2.2.2; rw [hO] at this; simp at this⟩
def localsL:List Str:=[[73],[73],[73],[74],[76,65,59],[91,73],[91,66]]
theorem s222 (hb:b≤O.length):xCall T 222 [] ⟨O,b,w⟩=some (.slice (some (O.length,0)) 7 (some 7),⟨O++[.cells 1 (localsL.flatMap strC)],b,w⟩):=by
 have e:localsL.flatMap strC=[.str [73],.str [73],.str [73],.str [74],.str [76,65,59],.str [91,73],.str [91,66]]:=rfl
 rw [e]
 simp (disch:=omega) [-getElem?_pos,-getElem?_neg,-List.all_eq_true,gz,gs,nltT,nltF,iltT,iltF,ileT,nleT,df,av t222,code222,gi,jf,dy,dp]
end Go.Abs.AbsMake

namespace Go.Abs.AbsMake
open Go.Abs.AbsDesc Go.Abs.AbsHier
variable {os O B:List AObj} {b w:Nat} {tN:Nat} {tb:List UInt8} {tv:AVal} {pc pt px:Option (Nat × Nat)} {cc ct cx:Option Nat} {C:List InsU} {S:List TrapU} {M:List MapU} {dep bud:Int} {n k:Nat}
theorem Own.row {α:Type} {N e:Nat} {f:α→List AVal} {L:List α} {p:Option (Nat × Nat)} {c:Option Nat} (hf:∀ x,(f x).length=e) (h:Own O N e f L p c):Row O e f L p:=by
 cases p with
 | none=>obtain ⟨rfl,_⟩:=h.none rfl; exact ⟨fun h=>absurd rfl h⟩
 | some q =>
  obtain ⟨i,o⟩:=q
  obtain ⟨rfl,_,_,h4⟩:=h.some i o rfl
  exact Row.mk0 hf h4
theorem take_get {cs L:List AVal} {m e k:Nat} (h:List.take e (List.drop m cs)=L) (hk:k < e):cs[m+k]? = L[k]?:=by
 rw [← h,ed hk,dt]
inductive StackOf (O:List AObj) (N:Nat):Option (Nat × Nat)→Option Nat→List Str→Prop
 | nil:StackOf O N none (some 0) []
 | one (q:Nat) (s:Str):N < q→s.length≤100→O[q]? = some (.cells 1 [.str s])→StackOf O N (some (q,0)) (some 1) [s]
theorem ids_slice {n m:Nat} {a:Option (Nat × Nat)} {c:Option Nat} (h:under n a):∀ i ∈ (AVal.slice a m c).ids,i < n:=by
 cases a with
 | none=>simp [AVal.ids]
 | some p=>obtain ⟨j,o⟩:=p; simp only [AVal.ids,du]; rintro i rfl; exact h _ _ rfl
theorem ids_map {n:Nat}:∀ {M:List MapU},(∀ x ∈ M,under n x.la∧under n x.sa)→∀ i ∈ AVal.idsL (M.flatMap MapU.cells),i < n
 | [],_=>by simp [AVal.idsL]
 | x :: M,h=>by
  intro i hi
  rw [co,idsL_app,bo] at hi
  rcases hi with hi | hi
  ·simp only [MapU.cells,AVal.idsL,AVal.ids,bz,ci,bo] at hi
   rcases hi with hi | hi
   ·exact ids_slice (h x (bc ..)).1 i hi
   ·exact ids_slice (h x (bc ..)).2 i hi
  ·exact ids_map (fun y hy=>h y (bj _ hy)) i hi
theorem all_okId {n0:Nat} {l:List Nat} (h:∀ i ∈ l,i < n0+1) (hm:n0 ∈ l) (m:Nat) (ds:List Go.Abs.Did):l.all (okId n0 m ds)=okId n0 m ds n0:=by
 rw [jv,al]
 constructor
 ·intro hh; exact hh _ hm
 ·intro hh i hi
  rcases bf i n0 with q | q
  ·simp [okId,q]
  ·have:=h i hi
   rw [show i=n0 by omega]; exact hh
set_option maxHeartbeats 1600000 in
theorem s208 (h:Ws tN tb tv B O n k dep) (hb:b≤tN) (hk:k+1≤100000) {sa:Option (Nat × Nat)} {sc:Option Nat} {L:List Str} (hst:StackOf O B.length sa sc L) {a0 a1 a2 a3 a4 a5:AVal} (hat:O[B.length]? = some (.cells 6 [a0,a1,a2,a3,a4,a5])) :
  ∃ (O':List AObj) (nx:Nat→Nat) (a3':AVal),Ws tN tb tv B O' n (k+1) dep∧O'[B.length]? = some (.cells 6 [a0,a1,a2,a3',a4,a5])∧O.length≤O'.length∧((∀ w,nx w=w)∨(∀ w,nx w=min w B.length)) ∧
   ∀ w,xCall T 100208 [.ptr (some (B.length,0)),.slice sa L.length sc] ⟨O,b,w⟩=some (.int .i64 n,⟨O',b,nx w⟩):=by
 obtain ⟨pc,pt,px,cc,ct,cx,C,S,M,bud,hW,rfl,h2,h3,h4⟩:=h.ex
 have hwr:=hW.wr
 have hBO:=hW.len
 have hlt:=hW.lt
 have e:=hat.symm.trans hwr
 simp only [wrO,bi,AObj.cells.injEq,iy,true_and,and_true] at e
 obtain ⟨rfl,rfl,rfl,rfl,rfl,rfl⟩:=e
 have hRm:Row O 3 MapU.cells M px:=Own.row (f:=MapU.cells) (fun _=>rfl) hW.m
 have hn1:C.length≤9223372036854775807:=by omega
 have hMl:M.length≤9223372036854775807:=by omega
 have hm:M.length=0∨∃ (l p:Nat) (cs:List AVal) (v:Int),M.length=l+1∧px=some (p,0)∧O[p]? = some (.cells 3 cs)∧l*3+3≤cs.length∧cs[l*3]? = some (.int .i64 v)∧B.length < p∧p < O.length:=by
  rcases Nat.eq_zero_or_pos M.length with c | c
  ·exact .inl c
  ·obtain ⟨y,hy⟩:∃ y,M[M.length - 1]? = some y:=⟨_,ah (by omega)⟩
   obtain ⟨p,o,cs,ha,hpp,hpl,hcs,ht⟩:=ig hRm hy
   obtain ⟨e1,e2,e3,e4⟩:=hW.m.some p o ha
   subst e1
   have:=take_get (k:=0) ht (by decide)
   rw [dv,gt] at this
   exact .inr ⟨M.length - 1,p,cs,y.at',by omega,ha,hpp,by omega,this,e3,hpl⟩
 have hX:=fun w=>s222 (O:=O) (b:=b) (w:=w) (by omega)
 have hl1:Leaf (O++[.cells 1 (localsL.flatMap strC)]) B.length pc pt px localsL (some (O.length,0)):=(hW.app _).leaf1 hBO (by rw [dp]; rfl) (by decide) (by decide)
 have hl2:Leaf (O++[.cells 1 (localsL.flatMap strC)]) B.length pc pt px L sa:=by
  cases hst with
  | nil=>exact leaf0
  | one q s q1 q2 q3=>exact (hW.app _).leaf1 q1 (by rw [ag (ai q3),q3]; rfl) (by simp) (by simpa using q2)
 obtain ⟨x,hx⟩:∃ x:MapU,x=⟨C.length,localsL,some (O.length,0),some 7,L,sa,sc⟩:=⟨_,rfl⟩
 have hcu:x.cells=[.int .i64 C.length,.slice (some (O.length,0)) 7 (some 7),.slice sa L.length sc]:=by rw [hx]; rfl
 have h1:=app_own (b:=b) (by':=56) (x:=x) (f:=MapU.cells) (fun _=>rfl) hW.m (by omega) (by omega) (by omega) [.cells 1 (localsL.flatMap strC)]
 have h5:=hW.addM (x:=x) [.cells 1 (localsL.flatMap strC)] (by rw [hx]; exact hl1) (by rw [hx]; exact hl2)
 have hidm:∀ i ∈ AVal.idsL ((M++[x]).flatMap MapU.cells),i < O.length+1:=ids_map fun y hy=>by
  have go:∀ {L:List Str} {a:Option (Nat × Nat)},Leaf (O++[.cells 1 (localsL.flatMap strC)]) B.length pc pt px L a→under (O.length+1) a:=fun hL i o e=>by have:=(hL.at' i o e).2.1; simpa using this
  rcases bo.1 hy with hy | hy
  ·exact ⟨go ((hW.mok y hy).1.app _),go ((hW.mok y hy).2.app _)⟩
  ·rw [du.1 hy,hx]; exact ⟨go hl1,go hl2⟩
 have hmemR:O.length ∈ AVal.idsL ((M++[x]).flatMap MapU.cells):=by
  rw [gr,idsL_app,bo]
  right
  simp [hcu,AVal.idsL,AVal.ids]
 have hall:=all_okId hidm hmemR
 generalize (M++[x]).flatMap MapU.cells=R at *
 generalize localsL.flatMap strC=Y at *
 simp only [ew] at h1 h5
 obtain ⟨O',hO'⟩:∃ O',O'=(killO px O++([AObj.cells 1 Y]++[AObj.cells 3 x.cells,AObj.cells 3 R])).set B.length (wrO tN pc pt (some (O.length+1+1,0)) cc ct none C.length S.length (M.length+1) dep bud):=⟨_,rfl⟩
 rw [← hO'] at h5
 have hlO:O.length≤O'.length:=by rw [hO']; simp
 have key:∀ w,(M.length=0∨∃ (l p:Nat) (cs:List AVal) (v:Int),M.length=l+1∧px=some (p,0)∧O[p]? = some (.cells 3 cs)∧l*3+3≤cs.length∧cs[l*3]? = some (.int .i64 v)∧B.length < p∧p < O.length∧v≠C.length) →
   xCall T 100208 [.ptr (some (B.length,0)),.slice sa L.length sc] ⟨O,b,w⟩=some (.int .i64 C.length,⟨O',b,min w B.length⟩):=by
  intro w hm
  rw [hcu] at h1 hO'
  have hlw:=h.lows hat
  have hB1:∀ X,(killO px O++X)[B.length]? = some (AObj.cells 6 [.ptr (some (tN,0)),.slice pc C.length cc,.slice pt S.length ct,.slice px M.length cx,.int .i64 dep,.int .i64 bud]):=fun X=>by
   rw [ag (by simpa using hBO),jr fun o e=>by have:=(hlw.2.2 _ _ e).2; omega]; exact hat
  rcases hm with hm | ⟨l,p,cs,v,m1,m2,m3,m4,m5,m6,m7,m8⟩
  ·rw [hm] at hat h1 hO' hB1
   simp only [wrO] at hO'
   rw [hO']
   cases px with
   | none =>
    cases hst with
    | nil =>
     simp only [killO,killW,b0,bz,br,ew] at h1 hB1 ⊢
     simp (maxSteps:=3000000) (disch:=omega) [-getElem?_pos,-getElem?_neg,-List.all_eq_true,gz,gs,nltT,nltF,iltT,iltF,ileT,nleT,df,bp,benign,again,AVal.eqb,-sget,ir,iu,iw,-aAppend,av t100208,code100208,hat,hX,h1,hall,hB1,dy,dp,hm]
    | one q s q1 q2 q3 =>
     simp only [killO,killW,b0,bz,br,ew] at h1 hB1 ⊢
     have q4:=ai q3
     simp (maxSteps:=3000000) (disch:=omega) [-getElem?_pos,-getElem?_neg,-List.all_eq_true,gz,gs,nltT,nltF,iltT,iltF,ileT,nleT,df,bp,benign,again,AVal.eqb,-sget,ir,iu,iw,-aAppend,av t100208,code100208,hat,hX,h1,hall,hB1,dy,dp,hm]
   | some q0 =>
    obtain ⟨i,o⟩:=q0
    obtain ⟨l1,l2⟩:=hlw.2.2 i o rfl
    have hk0:∀ X:List AObj,(O.set i .dead++X)[O.length]? = X[0]?:=fun X=>by rw [ak (by simp)]; simp
    have hk1:∀ (X:List AObj) (j:Nat),(O.set i .dead++X)[O.length+j]? = X[j]?:=fun X j=>by rw [ak (by simp)]; simp
    have hi1:¬ i=O.length+2:=by omega
    have hi2:¬ O.length+2≤i:=by omega
    have hi3:¬ O.length+1≤i:=by omega
    have hi4:¬ O.length≤i:=by omega
    have hi5:i < O.length+2:=by omega
    have hi6:i < O.length+1:=by omega
    have hiB:i≠B.length:=by omega
    have hi7:¬ i=O.length+1:=by omega
    have hi8:¬ i=O.length:=by omega
    cases hst with
    | nil =>
     simp only [killO,killW,b0,bz,br,ew] at h1 hB1 ⊢
     simp (maxSteps:=3000000) (disch:=omega) [-getElem?_pos,-getElem?_neg,-List.all_eq_true,gz,gs,nltT,nltF,iltT,iltF,ileT,nleT,df,bp,benign,again,AVal.eqb,-sget,ir,iu,iw,-aAppend,av t100208,code100208,hat,hX,h1,hall,hB1,dy,dp,hk0,hk1,hi1,hi2,hi3,hi4,hi5,hi6,hi7,hi8,hiB,l1,l2]
    | one q s q1 q2 q3 =>
     simp only [killO,killW,b0,bz,br,ew] at h1 hB1 ⊢
     have q4:=ai q3
     simp (maxSteps:=3000000) (disch:=omega) [-getElem?_pos,-getElem?_neg,-List.all_eq_true,gz,gs,nltT,nltF,iltT,iltF,ileT,nleT,df,bp,benign,again,AVal.eqb,-sget,ir,iu,iw,-aAppend,av t100208,code100208,hat,hX,h1,hall,hB1,dy,dp,hk0,hk1,hi1,hi2,hi3,hi4,hi5,hi6,hi7,hi8,hiB,l1,l2]
  ·rw [m1] at hat h1 hO' hB1
   simp only [wrO] at hO'
   rw [hO']
   subst m2
   have hpp:=fun X=>(ag (l₂:=X) m7).trans m3
   have hk0:∀ X:List AObj,(O.set p .dead++X)[O.length]? = X[0]?:=fun X=>by rw [ak (by simp)]; simp
   have hk1:∀ (X:List AObj) (j:Nat),(O.set p .dead++X)[O.length+j]? = X[j]?:=fun X j=>by rw [ak (by simp)]; simp
   have hi1:¬ p=O.length+2:=by omega
   have hi2:¬ O.length+2≤p:=by omega
   have hi3:¬ O.length+1≤p:=by omega
   have hi4:¬ O.length≤p:=by omega
   have hi5:p < O.length+2:=by omega
   have hi6:p < O.length+1:=by omega
   have hiB:p≠B.length:=by omega
   have hi7:¬ p=O.length+1:=by omega
   have hi8:¬ p=O.length:=by omega
   cases hst with
   | nil =>
    simp only [killO,killW,b0,bz,br,ew] at h1 hB1 ⊢
    simp (maxSteps:=3000000) (disch:=omega) [-getElem?_pos,-getElem?_neg,-List.all_eq_true,gz,gs,nltT,nltF,iltT,iltF,ileT,nleT,df,bp,benign,again,AVal.eqb,-sget,ir,iu,iw,-aAppend,av t100208,code100208,hat,hX,h1,hall,hB1,dy,dp,hk0,hk1,hi1,hi2,hi3,hi4,hi5,hi6,hi7,hi8,hiB,m3,m5,m8,m6,m7]
   | one q s q1 q2 q3 =>
    simp only [killO,killW,b0,bz,br,ew] at h1 hB1 ⊢
    have q4:=ai q3
    simp (maxSteps:=3000000) (disch:=omega) [-getElem?_pos,-getElem?_neg,-List.all_eq_true,gz,gs,nltT,nltF,iltT,iltF,ileT,nleT,df,bp,benign,again,AVal.eqb,-sget,ir,iu,iw,-aAppend,av t100208,code100208,hat,hX,h1,hall,hB1,dy,dp,hk0,hk1,hi1,hi2,hi3,hi4,hi5,hi6,hi7,hi8,hiB,m3,m5,m8,m6,m7]
 rcases hm with hm | ⟨l,p,cs,v,m1,m2,m3,m4,m5,m6,m7⟩
 ·exact ⟨O',fun w=>min w B.length,_,⟨_,_,_,_,_,_,_,_,_,_,h5,rfl,by omega,by omega,by simp; omega⟩,h5.wr,hlO,.inr fun w=>rfl,fun w=>key w (.inl hm)⟩
 ·by_cases c1:v=C.length
  ·refine ⟨O,id,_,h.le (by omega),hat,aj _,.inl fun w=>rfl,fun w=>?_⟩
   subst c1 m2
   have hli:((l:Int)+1) - 1=l:=by omega
   rw [m1] at hat
   simp (maxSteps:=3000000) (disch:=omega) [-getElem?_pos,-getElem?_neg,-List.all_eq_true,gz,gs,nltT,nltF,iltT,iltF,ileT,nleT,df,-sget,ir,iu,iw,av t100208,code100208,hat,m1,m3,m5]
  ·exact ⟨O',fun w=>min w B.length,_,⟨_,_,_,_,_,_,_,_,_,_,h5,rfl,by omega,by omega,by simp; omega⟩,h5.wr,hlO,.inr fun w=>rfl,fun w=>key w (.inr ⟨l,p,cs,v,m1,m2,m3,m4,m5,m6,m7,c1⟩)⟩
end Go.Abs.AbsMake

namespace Go.Abs.AbsMake
open Go.Abs.AbsDesc Go.Abs.AbsHier
variable {os O B:List AObj} {b w:Nat} {tN:Nat} {tb:List UInt8} {tv:AVal} {n k:Nat} {dep:Int}
set_option maxHeartbeats 1000000 in
theorem k4_183 (hb:b≤tN) {x:Int} {nx1:Nat→Nat} {O1:List AObj} {j:Nat} {c0:List AVal} (h:Ws tN tb tv B O n k dep) (f2:Ws tN tb tv B O1 n k dep) (f5:(∀ w,nx1 w=w)∨(∀ w,nx1 w=min w tN))
  (f6:∀ w,xCall T 102 [.ptr (some (tN,0)),.int .i64 6] ⟨O,b,w⟩=some (.int .i64 ((4:Nat):Int),⟨O1,b,nx1 w⟩))
  (hat:O[B.length]? = some (.cells 6 (.ptr (some (tN,0)) :: c0))) (hj:1≤j) (hk:k+j≤100000) :
  Did tN tb tv B b 183 [.ptr (some (B.length,0)),.int .i64 x] (.tuple []) O fun O'=>∃ n',n≤n'∧Ws tN tb tv B O' n' (k+j) dep:=by
 obtain ⟨hlt,hBO⟩:=h.len
 have hBO1:=f2.len.2
 obtain ⟨r2,O2,nx,g1,g2,g3,g4,g5,g6⟩:=f2.next hb (x:=256) (by decide) (by decide)
 have hBO2:=g2.len.2
 have hO12:O2.length=O1.length:=g3
 obtain ⟨pc,pt,px,cc,ct,cx,nt,nx',bud,cs,h1,h6,h9,h7,hkw,hk1,hk2,h8⟩:=g2.put (b:=b) (x:=⟨20,(r2:Int)*1099511627776 - 5,0,[],[],[74],[]⟩) hb (by omega) ⟨by simp,by simp,by simp,by simp⟩
 have e11:=(g4 B.length (by omega)).symm.trans h1
 obtain ⟨lw,_,_⟩:=g2.lows h1
 have n1:¬ (r2:Int) < 0:=by omega
 have hok:=fun m ds=>okSl (n0:=O1.length) (m:=m) (q:=n) (ds:=ds) (c:=cc) (p:=pc) fun i o e=>by have:=(lw i o e).1; omega
 obtain ⟨m'',q4,q5,q6⟩:=gm f5 (aj tN)
 have hwl1:nx1 O.length=O.length∨nx1 O.length=tN:=by rcases f5 with g | g <;> rw [g] <;> omega
 have hwl:nx O1.length=O1.length∨nx O1.length=tN:=by rcases g5 with g | g <;> rw [g] <;> omega
 have hm1:min O1.length B.length=B.length:=by omega
 have hm2:min tN B.length=tN:=by omega
 refine ⟨_,min (nx1 O.length) (min (nx O1.length) B.length),⟨n+1,by omega,h8.le (by omega)⟩,by omega,by omega,fun w=>?_⟩
 simp only [InsU.cells] at h7 ⊢
 rw [hO12] at h7 ⊢
 rw [av t183]
 have hbits:min 40 IntKind.i64.bits=40:=rfl
 have hwl:nx O1.length=O1.length∨nx O1.length=tN:=by rcases g5 with g | g <;> rw [g] <;> omega
 have hg0:∀ X:List AObj,(O2++X)[O1.length]? = X[0]?:=fun X=>by rw [← hO12,dp]
 have hg1:∀ (X:List AObj) (i:Nat),(O2++X)[O1.length+i]? = X[i]?:=fun X i=>by rw [← hO12,dy]
 have hB1:∀ X:List AObj,(O2++X)[B.length]? = some (AObj.cells 6 [.ptr (some (tN,0)),.slice pc n cc,.slice pt nt ct,.slice px nx' cx,.int .i64 dep,.int .i64 bud]):=fun X=>(ag (by omega)).trans h1
 have hids:AVal.idsL cs=[]:=h8.codeIds (q:=O2.length+1) (o:=0) (cs:=cs) (by rw [db,if_pos rfl,if_pos (by simp; omega)]) (by
  rw [aq (by omega),ak (by simp)]
  simp)
 have hBn:B.length≠tN:=by omega
 have c5:0 < x∨¬ 0 < x:=by omega
 cases pc with
 | none =>
  simp only [killO,killW] at h7 h9 ⊢
  rcases c5 with c4 | c4 <;> rcases hwl with hwl | hwl <;>
   simp (maxSteps:=3000000) (disch:=omega) [-getElem?_pos,-getElem?_neg,-List.all_eq_true,gz,gs,nltT,nltF,iltT,iltF,ileT,nleT,df,bp,benign,again,AVal.eqb,hO12,hbits,hg0,hg1,hB1,-sget,ir,iu,iw,-aAppend,code183,code183B0,hat,f6,c4,g6,h1,e11,hok,h7,h9,hids,hm1,hm2,hwl]
 | some q =>
  obtain ⟨i,o⟩:=q
  obtain ⟨l1,l2⟩:=lw i o rfl
  have hk0:∀ X:List AObj,(O2.set i .dead++X)[O1.length]? = X[0]?:=fun X=>by rw [← hO12,ak (by simp)]; simp
  have hk1:∀ (X:List AObj) (j:Nat),(O2.set i .dead++X)[O1.length+j]? = X[j]?:=fun X j=>by rw [← hO12,ak (by simp)]; simp
  have hi1:¬ i=O1.length+1:=by omega
  have hi2:¬ O1.length+1≤i:=by omega
  have hi3:¬ O1.length≤i:=by omega
  have hi4:i < O1.length:=by omega
  have hi5:i < O1.length+1:=by omega
  have hBi:B.length≤i:=by omega
  have htB:tN≤i:=by omega
  have hiB:i≠B.length:=by omega
  have hit:i≠tN:=by omega
  simp only [killO,killW] at h7 h9 ⊢
  rcases c5 with c4 | c4 <;> rcases hwl with hwl | hwl <;>
   simp (maxSteps:=3000000) (disch:=omega) [-getElem?_pos,-getElem?_neg,-List.all_eq_true,gz,gs,nltT,nltF,iltT,iltF,ileT,nleT,df,bp,benign,again,AVal.eqb,hO12,hbits,hg0,hg1,hB1,-sget,ir,iu,iw,-aAppend,code183,code183B0,hat,f6,c4,g6,h1,e11,hok,h7,h9,hids,hm1,hm2,hk0,hk1,hi1,hi2,hi3,hi4,hi5,hiB,hit,hwl]
end Go.Abs.AbsMake

namespace Go.Abs.AbsMake
open Go.Abs.AbsDesc Go.Abs.AbsHier
variable {os O B:List AObj} {b w:Nat} {tN:Nat} {tb:List UInt8} {tv:AVal} {n k:Nat} {dep:Int}
section
attribute [-simp] getElem?_pos getElem?_neg List.all_eq_true
attribute [local simp] gz gs nltT nltF iltT iltF ileT nleT df
theorem sw151 (hb:b≤tN) {d:Nat} {x:Int} (hx:-9≤x) (hx2:x≤9) (h:Ws tN tb tv B O n k dep) {j:Nat} (hj1:1≤j) (hk:k+j≤100000) {r:Nat} (hr:r < 16) (hrj:4≤r→2*KK d+1≤j)
  (hi:4≤r→Expr tN tb tv B b dep 151 (x - 1) (KK d)) (hl:4≤r→Expr tN tb tv B b dep 183 (x - 1) (KK d)) :
  ∃ O' m n',n≤n'∧Ws tN tb tv B O' n' (k+j) dep∧tN≤m∧m≤B.length∧∀ (w:Nat) (c:AExit→St→Option (AVal × Heap)),
   xK T code151B0 ⟨[(0,.val (.ptr (some (B.length,0)))),(1,.val (.int .i64 x)),(29,.val (.int .i64 r))],⟨O,b,w⟩⟩ (k:=⟨c⟩)=c .normal ⟨[],⟨O',b,min w m⟩⟩:=by
 have hKd:=KK_pos d
 have hx1:IntKind.i64.wrap (x - 1)=x - 1:=df (by omega)
 obtain ⟨pc,pt,px,cc,ct,cx,nt,nx',bud,hat,_⟩:=h.at'
 obtain ⟨hlt,hBO⟩:=h.len
 have e0:r=0∨r=1∨r=2∨r=3∨(4≤r∧r≤7)∨r=8∨r=9∨r=10∨r=11∨r=12∨r=13∨r=14∨r=15:=by omega
 rcases e0 with rfl | rfl | rfl | rfl | h4 | rfl | rfl | rfl | rfl | rfl | rfl | rfl | rfl
 ·obtain ⟨r2,O1,nx,g1,g2,g3,g4,g5,g6⟩:=h.next hb (x:=3) (by decide) (by decide)
  obtain ⟨O2,m2,p2,l2,u2,e2⟩:=s150 g2 hb (by omega) (op:=21) (nn:=r2)
  obtain ⟨m',q1,q2,q3⟩:=gm g5 l2
  refine ⟨O2,m',n+1,by omega,p2.le (by omega),q1,by omega,fun w c=>?_⟩
  simp (disch:=omega) [code151B0,hat,g6,e2,q3]
 ·obtain ⟨r2,O1,nx,g1,g2,g3,g4,g5,g6⟩:=h.next hb (x:=3) (by decide) (by decide)
  obtain ⟨O2,m2,p2,l2,u2,e2⟩:=s150 g2 hb (by omega) (op:=21) (nn:=r2)
  obtain ⟨m',q1,q2,q3⟩:=gm g5 l2
  refine ⟨O2,m',n+1,by omega,p2.le (by omega),q1,by omega,fun w c=>?_⟩
  simp (disch:=omega) [code151B0,hat,g6,e2,q3]
 ·obtain ⟨r2,O1,nx,g1,g2,g3,g4,g5,g6⟩:=h.next hb (x:=256) (by decide) (by decide)
  obtain ⟨O2,m2,p2,l2,u2,e2⟩:=s153 g2 hb (by omega) (x:=r2 - 100) (by omega) (by omega)
  obtain ⟨m',q1,q2,q3⟩:=gm g5 l2
  refine ⟨O2,m',n+1,by omega,p2.le (by omega),q1,by omega,fun w c=>?_⟩
  simp (disch:=omega) [code151B0,hat,g6,e2,q3]
 ·obtain ⟨O2,m2,p2,l2,u2,e2⟩:=s154 h hb (by omega) (op:=178) (c:=[77,97,105,110]) (m:=[115]) (d:=[73]) (by decide) (by decide) (by decide)
  refine ⟨O2,m2,n+1,by omega,p2.le (by omega),l2,u2,fun w c=>?_⟩
  simp (disch:=omega) [code151B0,hat,e2]
 ·have hrj:=hrj h4.1
  have hi:=hi h4.1
  obtain ⟨O1,m1,⟨n1,k1,p1⟩,l1,u1,e1⟩:=hi O n k h (by omega)
  obtain ⟨O2,m2,⟨n2,k2,p2⟩,l2,u2,e2⟩:=hi O1 n1 _ p1 (by omega)
  obtain ⟨r2,O3,nx,g1,g2,g3,g4,g5,g6⟩:=(p2.app [.cells 1 (acts151.map (AVal.int .u8))]).next hb (x:=10) (by decide) (by decide)
  obtain ⟨y,hy⟩:=bytes_get acts151 (r:=r2) (by simp only [acts151,a8,br]; omega)
  obtain ⟨O4,m4,p4,l4,u4,e4⟩:=s150 g2 hb (by omega) (op:=y) (nn:=0)
  obtain ⟨m',q1,q2,q3⟩:=gm g5 l4
  obtain ⟨_,_,_,_,_,_,_,_,_,hat2,_⟩:=p2.at'
  have hlen2:=p2.len
  have hat2:=fun X=>(ag (l₂:=X) hlen2.2).trans hat2
  have g7:=g4 O2.length (by omega)
  rw [dp] at g7
  simp only [acts151,bu,eu] at g6 g7 hy
  have hc:(r:Int)=4∨(r:Int)=5∨(r:Int)=6∨(r:Int)=7:=by omega
  refine ⟨O4,min m1 (min m2 m'),n2+1,by omega,p4.le (by omega),by omega,by omega,fun w c=>?_⟩
  rcases hc with hc | hc | hc | hc <;> simp (disch:=omega) [code151B0,hc,hx1,e1,e2,hat2,g6,g7,hy,e4,q3,cj]
 ·have hrj:=hrj (by decide)
  obtain ⟨O1,m1,⟨n1,k1,p1⟩,l1,u1,e1⟩:=hl (by decide) O n k h (by omega)
  obtain ⟨O2,m2,p2,l2,u2,e2⟩:=s150 p1 hb (by omega) (op:=136) (nn:=0)
  refine ⟨O2,min m1 m2,n1+1,by omega,p2.le (by omega),by omega,by omega,fun w c=>?_⟩
  simp (disch:=omega) [code151B0,hx1,e1,e2,cj]
 ·have hrj:=hrj (by decide)
  obtain ⟨O1,m1,p1,l1,u1,e1⟩:=s150 h hb (by omega) (op:=25) (nn:=6)
  obtain ⟨O2,m2,⟨n2,k2,p2⟩,l2,u2,e2⟩:=hi (by decide) O1 _ _ p1 (by omega)
  obtain ⟨O3,m3,p3,l3,u3,e3⟩:=s150 p2 hb (by omega) (op:=46) (nn:=0)
  refine ⟨O3,min m1 (min m2 m3),n2+1,by omega,p3.le (by omega),by omega,by omega,fun w c=>?_⟩
  simp (disch:=omega) [code151B0,hx1,e1,e2,e3,cj]
 ·have hrj:=hrj (by decide)
  obtain ⟨O1,m1,p1,l1,u1,e1⟩:=s150 h hb (by omega) (op:=25) (nn:=5)
  obtain ⟨O2,m2,p2,l2,u2,e2⟩:=s154 p1 hb (by omega) (op:=180) (c:=[65]) (m:=[102]) (d:=[73]) (by decide) (by decide) (by decide)
  refine ⟨O2,min m1 m2,n+1+1,by omega,p2.le (by omega),by omega,by omega,fun w c=>?_⟩
  simp (disch:=omega) [code151B0,hx1,e1,e2,cj]
 ·have hrj:=hrj (by decide)
  obtain ⟨O1,m1,p1,l1,u1,e1⟩:=s150 h hb (by omega) (op:=25) (nn:=5)
  obtain ⟨O2,m2,⟨n2,k2,p2⟩,l2,u2,e2⟩:=hi (by decide) O1 _ _ p1 (by omega)
  obtain ⟨O3,m3,p3,l3,u3,e3⟩:=s154 p2 hb (by omega) (op:=182) (c:=[65]) (m:=[118]) (d:=[40,73,41,73]) (by decide) (by decide) (by decide)
  refine ⟨O3,min m1 (min m2 m3),n2+1,by omega,p3.le (by omega),by omega,by omega,fun w c=>?_⟩
  simp (disch:=omega) [code151B0,hx1,e1,e2,e3,cj]
 ·have hrj:=hrj (by decide)
  obtain ⟨O2,m2,⟨n2,k2,p2⟩,l2,u2,e2⟩:=hi (by decide) O _ _ h (by omega)
  obtain ⟨O3,m3,p3,l3,u3,e3⟩:=s154 p2 hb (by omega) (op:=184) (c:=[77,97,105,110]) (m:=[104,101,108,112]) (d:=[40,73,41,73]) (by decide) (by decide) (by decide)
  refine ⟨O3,min m2 m3,n2+1,by omega,p3.le (by omega),by omega,by omega,fun w c=>?_⟩
  simp (disch:=omega) [code151B0,hx1,e2,e3,cj]
 ·have hrj:=hrj (by decide)
  obtain ⟨r2,O1,nx,g1,g2,g3,g4,g5,g6⟩:=h.next hb (x:=2) (by decide) (by decide)
  obtain ⟨O2,m2,p2,l2,u2,e2⟩:=s150 g2 hb (by omega) (op:=25) (nn:=6+r2)
  obtain ⟨O3,m3,p3,l3,u3,e3⟩:=s150 p2 hb (by omega) (op:=190) (nn:=0)
  obtain ⟨m',q1,q2,q3⟩:=gm g5 l2
  refine ⟨O3,min m' m3,n+1+1,by omega,p3.le (by omega),by omega,by omega,fun w c=>?_⟩
  simp (disch:=omega) [code151B0,hat,g6,e2,e3,q3,cj]
 ·have hrj:=hrj (by decide)
  obtain ⟨O1,m1,p1,l1,u1,e1⟩:=s150 h hb (by omega) (op:=25) (nn:=5)
  obtain ⟨pc,pt,px,cc,ct,cx,nt,nx,bud,cs,h1,h6,h9,h7,hkw,_,_,h8⟩:=p1.put (b:=b) (x:=⟨193,0,0,[66],[],[],[]⟩) hb (by omega) ⟨by decide,by decide,by decide,by decide⟩
  simp only [InsU.cells] at h7
  refine ⟨_,min m1 B.length,n+1+1,by omega,h8.le (by omega),by omega,by omega,fun w c=>?_⟩
  simp (disch:=omega) [code151B0,hx1,e1,-aAppend,h1,h7,h6,h9,hkw,InsU.cells,cj]
 ·have hrj:=hrj (by decide)
  obtain ⟨O1,m1,⟨n1,k1,p1⟩,l1,u1,e1⟩:=hl (by decide) O n k h (by omega)
  obtain ⟨O2,m2,⟨n2,k2,p2⟩,l2,u2,e2⟩:=hl (by decide) O1 n1 _ p1 (by omega)
  obtain ⟨O3,m3,p3,l3,u3,e3⟩:=s150 p2 hb (by omega) (op:=148) (nn:=0)
  refine ⟨O3,min m1 (min m2 m3),n2+1,by omega,p3.le (by omega),by omega,by omega,fun w c=>?_⟩
  simp (disch:=omega) [code151B0,hx1,e1,e2,e3,cj]
theorem s151_of (hb:b≤tN) {d:Nat} {x:Int} (hx:-9≤x) (hx2:x≤9) {j:Nat} (hj1:1≤j) (hj:0 < x→2*KK d+1≤j)
  (hi:0 < x→Expr tN tb tv B b dep 151 (x - 1) (KK d)) (hl:0 < x→Expr tN tb tv B b dep 183 (x - 1) (KK d)):Expr tN tb tv B b dep 151 x j:=by
 intro O n k h hk
 obtain ⟨pc,pt,px,cc,ct,cx,nt,nx',bud,hat,hset⟩:=h.at'
 obtain ⟨hlt,hBO⟩:=h.len
 have h1:=hset dep (IntKind.i64.wrap (bud - 1))
 obtain ⟨r,O2,nx,g1,g2,g3,g4,g5,g6⟩:=h1.next hb (x:=16) (by decide) (by decide)
 have hat2:=g4 B.length (by omega)
 rw [db,if_pos rfl,if_pos hBO] at hat2
 have hset2:∀ y,(O.set B.length y)[B.length]? = some y:=fun y=>by rw [db,if_pos rfl,if_pos hBO]
 have hr4:(r:Int).tmod 4=((r % 4:Nat):Int):=by rw [Int.tmod_eq_emod_of_nonneg (by omega)]; omega
 by_cases c1:x≤0
 ·obtain ⟨O3,m3,n3,k3,p3,l3,u3,e3⟩:=sw151 (d:=d) hb hx hx2 g2 hj1 hk (r:=r % 4) (by omega) (fun h=>by omega) (fun h=>by omega) (fun h=>by omega)
  obtain ⟨m',q1,q2,q3⟩:=gm g5 l3
  have hmm:min B.length m'=m':=by omega
  refine ⟨O3,m',⟨n3,k3,p3⟩,q1,by omega,fun w=>?_⟩
  simp only [Int.natCast_emod,bl] at e3
  simp (disch:=omega) [av t151,code151,hat,hset2,g6,hat2,c1,hr4,e3,q3,hmm]
 ·by_cases c2:IntKind.i64.wrap (bud - 1)≤0
  ·obtain ⟨O3,m3,n3,k3,p3,l3,u3,e3⟩:=sw151 (d:=d) hb hx hx2 g2 hj1 hk (r:=r % 4) (by omega) (fun h=>by omega) (fun h=>by omega) (fun h=>by omega)
   obtain ⟨m',q1,q2,q3⟩:=gm g5 l3
   have hmm:min B.length m'=m':=by omega
   refine ⟨O3,m',⟨n3,k3,p3⟩,q1,by omega,fun w=>?_⟩
   simp only [Int.natCast_emod,bl] at e3
   simp (disch:=omega) [av t151,code151,hat,hset2,g6,hat2,c1,c2,hr4,e3,q3,hmm]
  ·obtain ⟨O3,m3,n3,k3,p3,l3,u3,e3⟩:=sw151 (d:=d) hb hx hx2 g2 hj1 hk (r:=r) (by omega) (fun _=>hj (by omega)) (fun _=>hi (by omega)) (fun _=>hl (by omega))
   obtain ⟨m',q1,q2,q3⟩:=gm g5 l3
   have hmm:min B.length m'=m':=by omega
   refine ⟨O3,m',⟨n3,k3,p3⟩,q1,by omega,fun w=>?_⟩
   simp (disch:=omega) [av t151,code151,hat,hset2,g6,hat2,c1,c2,e3,q3,hmm]
end
def acts183:List Int:=[97,101,105,109,127,131,113,129]
def acts183b:List Int:=[121,123,125]
section
attribute [-simp] getElem?_pos getElem?_neg List.all_eq_true
attribute [local simp] gz gs nltT nltF iltT iltF ileT nleT df
theorem s183_of (hb:b≤tN) {i l j:Nat} {x:Int} (hx:-8≤x) (hx2:x≤9) (hj1:i+1≤j) (hj:0 < x→2*l+1≤j∧l+i+1≤j)
  (hi:Expr tN tb tv B b dep 151 (x - 1) i) (hl:0 < x→Expr tN tb tv B b dep 183 (x - 1) l):Expr tN tb tv B b dep 183 x j:=by
 intro O n k h hk
 have hx1:IntKind.i64.wrap (x - 1)=x - 1:=df (by omega)
 obtain ⟨hlt,hBO⟩:=h.len
 obtain ⟨_,_,_,_,_,_,_,_,_,hat,_⟩:=h.at'
 obtain ⟨r,O1,nx1,f1,f2,f3,f4,f5,f6⟩:=h.next hb (x:=6) (by decide) (by decide)
 have hBO1:=f2.len.2
 obtain ⟨_,_,_,_,_,_,_,_,_,hat1,_⟩:=f2.at'
 by_cases c1:0 < x∧r < 2
 ·obtain ⟨c1,c2⟩:=c1
  obtain ⟨j1,j2⟩:=hj c1
  have hc:(r:Int) < 2:=by omega
  obtain ⟨O2,m2,⟨n2,k2,p2⟩,l2,u2,e2⟩:=hl c1 O1 n k f2 (by omega)
  obtain ⟨O3,m3,⟨n3,k3,p3⟩,l3,u3,e3⟩:=hl c1 O2 n2 _ p2 (by omega)
  obtain ⟨r2,O4,nx,g1,g2,g3,g4,g5,g6⟩:=(p3.app [.cells 1 (acts183.map (AVal.int .u8))]).next hb (x:=8) (by decide) (by decide)
  obtain ⟨y,hy⟩:=bytes_get acts183 (r:=r2) (by simp only [acts183,a8,br]; omega)
  obtain ⟨O5,m5,p5,l5,u5,e5⟩:=s150 g2 hb (by omega) (op:=y) (nn:=0)
  obtain ⟨m',q1,q2,q3⟩:=gm g5 l5
  obtain ⟨m'',q4,q5,q6⟩:=gm f5 l2
  obtain ⟨_,_,_,_,_,_,_,_,_,hat3,_⟩:=p3.at'
  have hlen3:=p3.len
  have hat3:=fun X=>(ag (l₂:=X) hlen3.2).trans hat3
  have g7:=g4 O3.length (by omega)
  rw [dp] at g7
  simp only [acts183,bu,eu] at g6 g7 hy
  refine ⟨O5,min m'' (min m3 m'),⟨n3+1,by omega,p5.le (by omega)⟩,by omega,by omega,fun w=>?_⟩
  have hmm:∀ w,min w (min O.length (min m'' (min m3 m')))=min w (min m'' (min m3 m')):=fun w=>by omega
  rw [av t183]; simp (disch:=omega) [code183,code183B0,hat,f6,c1,hc,hx1,e2,e3,hat3,g6,g7,hy,e5,q3,q6,hmm,cj]
 ·by_cases c2:0 < x∧r=2
  ·obtain ⟨c2,rfl⟩:=c2
   obtain ⟨j1,j2⟩:=hj c2
   obtain ⟨O2,m2,⟨n2,k2,p2⟩,l2,u2,e2⟩:=hl c2 O1 n k f2 (by omega)
   obtain ⟨O3,m3,⟨n3,k3,p3⟩,l3,u3,e3⟩:=hi O2 n2 _ p2 (by omega)
   obtain ⟨r2,O4,nx,g1,g2,g3,g4,g5,g6⟩:=(p3.app [.cells 1 (acts183b.map (AVal.int .u8))]).next hb (x:=3) (by decide) (by decide)
   obtain ⟨y,hy⟩:=bytes_get acts183b (r:=r2) (by simp only [acts183b,a8,br]; omega)
   obtain ⟨O5,m5,p5,l5,u5,e5⟩:=s150 g2 hb (by omega) (op:=y) (nn:=0)
   obtain ⟨m',q1,q2,q3⟩:=gm g5 l5
   obtain ⟨m'',q4,q5,q6⟩:=gm f5 l2
   obtain ⟨_,_,_,_,_,_,_,_,_,hat3,_⟩:=p3.at'
   have hlen3:=p3.len
   have hat3:=fun X=>(ag (l₂:=X) hlen3.2).trans hat3
   have g7:=g4 O3.length (by omega)
   rw [dp] at g7
   simp only [acts183b,bu,eu] at g6 g7 hy
   refine ⟨O5,min m'' (min m3 m'),⟨n3+1,by omega,p5.le (by omega)⟩,by omega,by omega,fun w=>?_⟩
   have hmm:∀ w,min w (min O.length (min m'' (min m3 m')))=min w (min m'' (min m3 m')):=fun w=>by omega
   rw [av t183]; simp (disch:=omega) [code183,code183B0,hat,f6,c2,hx1,e2,e3,hat3,g6,g7,hy,e5,q3,q6,hmm,cj]
  ·have hd:∀ z:List AVal,True:=fun _=>trivial
   by_cases c3:r=3
   ·subst c3
    obtain ⟨O5,m5,p5,l5,u5,e5⟩:=s150 f2 hb (by omega) (op:=22) (nn:=3)
    obtain ⟨m'',q4,q5,q6⟩:=gm f5 l5
    refine ⟨O5,m'',⟨n+1,by omega,p5.le (by omega)⟩,by omega,by omega,fun w=>?_⟩
    have hmm:∀ w,min w (min O.length m'')=min w m'':=fun w=>by omega
    by_cases c4:0 < x
    ·rw [av t183]; simp (disch:=omega) [code183,code183B0,hat,f6,c4,e5,q6,hmm,cj]
    ·rw [av t183]; simp (disch:=omega) [code183,code183B0,hat,f6,c4,e5,q6,hmm,cj]
   ·by_cases c4:r=4
    ·subst c4
     exact k4_183 hb h f2 f5 f6 hat (by omega) (by omega)
    ·have hc:¬ (r:Int) < 2∨¬ 0 < x:=by omega
     obtain ⟨O2,m2,⟨n2,k2,p2⟩,l2,u2,e2⟩:=hi O1 n k f2 (by omega)
     obtain ⟨O5,m5,p5,l5,u5,e5⟩:=s150 p2 hb (by omega) (op:=133) (nn:=0)
     obtain ⟨m'',q4,q5,q6⟩:=gm f5 l2
     have hmm:∀ w,min w (min O.length (min m'' m5))=min w (min m'' m5):=fun w=>by omega
     have n3:¬ (r:Int)=3:=by omega
     have n4:¬ (r:Int)=4:=by omega
     refine ⟨O5,min m'' m5,⟨n2+1,by omega,p5.le (by omega)⟩,by omega,by omega,fun w=>?_⟩
     by_cases c5:0 < x
     ·have n1:¬ (r:Int) < 2:=by omega
      have n2:¬ (r:Int)=2:=by omega
      rw [av t183]; simp (disch:=omega) [code183,code183B0,hat,f6,c5,n1,n2,n3,n4,hx1,e2,e5,q6,hmm,cj]
     ·rw [av t183]; simp (disch:=omega) [code183,code183B0,hat,f6,c5,n3,n4,hx1,e2,e5,q6,hmm,cj]
end
theorem jy (hb:b≤tN):∀ (d:Nat) (x:Int),-9≤x→x≤9→x≤d→Expr tN tb tv B b dep 151 x (KK d)∧(-8≤x→Expr tN tb tv B b dep 183 x (KK d))
 | 0,x,h1,h2,h3=>⟨s151_of (d:=0) hb h1 h2 (by decide) (fun h=>by omega) (fun h=>by omega) (fun h=>by omega),fun h4 =>
   s183_of (i:=1) (l:=0) hb h4 h2 (by decide) (fun h=>by omega) (s151_of (d:=0) hb (by omega) (by omega) (by decide) (fun h=>by omega) (fun h=>by omega) (fun h=>by omega)) (fun h=>by omega)⟩
 | d+1,x,h1,h2,h3=>by
  have hp:=KK_pos d
  refine ⟨s151_of (d:=d) hb h1 h2 (by simp only [KK]; omega) (fun h=>by simp only [KK]; omega) (fun h=>(jy hb d (x - 1) (by omega) (by omega) (by omega)).1) (fun h=>(jy hb d (x - 1) (by omega) (by omega) (by omega)).2 (by omega)),fun h4=>?_⟩
  exact s183_of (i:=KK d) (l:=KK d) hb h4 h2 (by simp only [KK]; omega) (fun h=>⟨by simp only [KK]; omega,by simp only [KK]; omega⟩) (jy hb d (x - 1) (by omega) (by omega) (by omega)).1 (fun h=>(jy hb d (x - 1) (by omega) (by omega) (by omega)).2 (by omega))
end Go.Abs.AbsMake

namespace Go.Abs.AbsMake
open Go.Abs.AbsDesc Go.Abs.AbsHier
variable {os O B:List AObj} {b w:Nat} {tN:Nat} {tb:List UInt8} {tv:AVal} {dep:Int} {n k:Nat}
def Act (tN:Nat) (tb:List UInt8) (tv:AVal) (B:List AObj) (b:Nat) (dep:Int) (g:Nat) (args:List AVal) (j:Nat):Prop :=
 ∀ (O:List AObj) (n k:Nat),Ws tN tb tv B O n k dep→k+j≤100000→Did tN tb tv B b g args (.tuple []) O fun O'=>∃ n',n≤n'∧Ws tN tb tv B O' n' (k+j) dep
theorem Ws.setN (h:Ws tN tb tv B O n k dep) {i n':Nat} (hi:i < n) {a0 a2 a3 a4 a5:AVal} {pc:Option (Nat × Nat)} {cc:Option Nat} (hat:O[B.length]? = some (.cells 6 [a0,.slice pc n' cc,a2,a3,a4,a5])) :
  ∃ q cs,pc=some (q,0)∧n'=n∧B.length < q∧q < O.length∧O[q]? = some (.cells 7 cs)∧cs.length=n*7∧∀ z:Int,Ws tN tb tv B (O.set q (.cells 7 (cs.take (i*7+1) ++ .int .i64 z :: cs.drop (i*7+2)))) n k dep:=by
 obtain ⟨pc',pt,px,cc',ct,cx,C,S,M,bud,hW,rfl,h2,h3,h4⟩:=h.ex
 have e:=hat.symm.trans hW.wr
 simp only [wrO,bi,AObj.cells.injEq,iy,AVal.slice.injEq,true_and,and_true] at e
 obtain ⟨_,⟨e1,e2,e3⟩,_⟩:=e
 subst e1 e2 e3
 cases pc with
 | none=>have:=(hW.c.none rfl).1; rw [this] at hi; simp at hi
 | some q =>
  obtain ⟨q,o⟩:=q
  obtain ⟨h5,h6,h7,h8⟩:=hW.c.some q o rfl
  subst h5
  have hlen:(C.flatMap InsU.cells).length=C.length*7:=flat_len InsU.cells 7 (fun _=>rfl) C
  refine ⟨q,_,rfl,rfl,h7,ai h8,h8,hlen,fun z=>?_⟩
  obtain ⟨C',hC,hW'⟩:=hW.setN rfl hi z
  have hc:i*7+1 < (C.flatMap InsU.cells).length:=by rw [hlen]; omega
  have hs:(C.flatMap InsU.cells).set (i*7+1) (.int .i64 z)=(C.flatMap InsU.cells).take (i*7+1) ++ .int .i64 z :: (C.flatMap InsU.cells).drop (i*7+2):=by rw [List.set_eq_take_append_cons_drop,if_pos hc]
  rw [hs] at hW'
  exact ⟨_,_,_,_,_,_,_,_,_,_,hW',hC,h2,h3,h4⟩
theorem s210 (h:Ws tN tb tv B O n k dep) (hb:b≤tN) (hk:k≤100000) {op:Int} :
  Did tN tb tv B b 210 [.ptr (some (B.length,0)),.int .u8 op] (.int .i64 n) O fun O'=>Ws tN tb tv B O' (n+1) (k+1) dep:=by
 obtain ⟨hlt,hBO⟩:=h.len
 obtain ⟨O1,m1,p1,l1,u1,e1⟩:=s150 h hb hk (op:=op) (nn:=0)
 obtain ⟨_,_,_,_,_,_,_,_,_,hat1,_⟩:=p1.at'
 obtain ⟨_,_,_,_,_,_,_,_,_,_,_,hn1,_⟩:=p1.ex
 refine ⟨O1,m1,p1,l1,u1,fun w=>?_⟩
 simp (disch:=omega) [-getElem?_pos,-getElem?_neg,-List.all_eq_true,gz,gs,nltT,nltF,iltT,iltF,ileT,nleT,df,-sget,ir,iu,iw,av t210,code210,e1,hat1]
theorem natInt1 (r:Nat):((r:Int)=1)=(r=1):=by simp; omega
theorem natInt2 (r:Nat):((r:Int)=2)=(r=2):=by simp; omega
section
attribute [-simp] getElem?_pos getElem?_neg List.all_eq_true sget
attribute [local simp] gz gs nltT nltF iltT iltF ileT nleT df ir iu iw
theorem sw184 (hb:b≤tN) (h:Ws tN tb tv B O n k dep) (hk:k+2≤100000) {r:Nat} :
  ∃ O' m n',n≤n'∧Ws tN tb tv B O' n' (k+2) dep∧tN≤m∧m≤B.length∧∀ (w:Nat) (c:AExit→St→Option (AVal × Heap)),
   xK T code184B0 ⟨[(0,.val (.ptr (some (B.length,0)))),(6,.val (.int .i64 r))],⟨O,b,w⟩⟩ (k:=⟨c⟩)=c .normal ⟨[],⟨O',b,min w m⟩⟩:=by
 obtain ⟨hlt,hBO⟩:=h.len
 have c4:r=0∨r=1∨r=2∨(¬ r=0∧¬ r=1∧¬ r=2):=by omega
 rcases c4 with rfl | rfl | rfl | ⟨c1,c2,c3⟩
 ·obtain ⟨O2,m2,p2,l2,u2,e2⟩:=s150 h hb (by omega) (op:=1) (nn:=0)
  refine ⟨O2,m2,n+1,by omega,p2.le (by omega),l2,u2,fun w c=>?_⟩
  simp (disch:=omega) [code184B0,e2]
 ·obtain ⟨pc,pt,px,cc,ct,cx,nt,nx,bud,cs,h1,h6,h9,h7,hkw,_,_,h8⟩:=h.put (b:=b) (x:=⟨187,0,0,[66],[],[],[]⟩) hb (by omega) ⟨by decide,by decide,by decide,by decide⟩
  simp only [InsU.cells] at h7
  refine ⟨_,B.length,n+1,by omega,h8.le (by omega),by omega,by omega,fun w c=>?_⟩
  simp (disch:=omega) [code184B0,-aAppend,h1,h7,h6,h9,hkw,InsU.cells]
 ·obtain ⟨O1,m1,p1,l1,u1,e1⟩:=s150 h hb (by omega) (op:=25) (nn:=5)
  obtain ⟨pc,pt,px,cc,ct,cx,nt,nx,bud,cs,h1,h6,h9,h7,hkw,_,_,h8⟩:=p1.put (b:=b) (x:=⟨192,0,0,[66],[],[],[]⟩) hb (by omega) ⟨by decide,by decide,by decide,by decide⟩
  simp only [InsU.cells] at h7
  refine ⟨_,min m1 B.length,n+1+1,by omega,h8.le (by omega),by omega,by omega,fun w c=>?_⟩
  simp (disch:=omega) [code184B0,e1,-aAppend,h1,h7,h6,h9,hkw,InsU.cells,cj]
 ·obtain ⟨pc,pt,px,cc,ct,cx,nt,nx,bud,cs,h1,h6,h9,h7,hkw,_,_,h8⟩:=h.put (b:=b) (x:=⟨187,0,0,[65],[],[],[]⟩) hb (by omega) ⟨by decide,by decide,by decide,by decide⟩
  simp only [InsU.cells] at h7
  refine ⟨_,B.length,n+1,by omega,h8.le (by omega),by omega,by omega,fun w c=>?_⟩
  simp (disch:=omega) [code184B0,c1,natInt1,c2,natInt2,c3,-aAppend,h1,h7,h6,h9,hkw,InsU.cells]
theorem s184 (hb:b≤tN):Act tN tb tv B b dep 184 [.ptr (some (B.length,0))] 2:=fun O n k h hk=>by
 obtain ⟨hlt,hBO⟩:=h.len
 obtain ⟨_,_,_,_,_,_,_,_,_,hat,_⟩:=h.at'
 obtain ⟨r,O1,nx1,f1,f2,f3,f4,f5,f6⟩:=h.next hb (x:=5) (by decide) (by decide)
 obtain ⟨O2,m2,n2,q1,p2,l2,u2,e2⟩:=sw184 hb f2 hk (r:=r)
 obtain ⟨m',q4,q5,q6⟩:=gm f5 l2
 have hmm:∀ w,min w (min O.length m')=min w m':=fun w=>by omega
 have hm2:min O.length m'=m':=by omega
 refine ⟨O2,m',⟨n2,q1,p2⟩,q4,by omega,fun w=>?_⟩
 simp (disch:=omega) [av t184,code184,hat,f6,e2,q6,hmm,hm2]
theorem sw188 (hb:b≤tN) (h:Ws tN tb tv B O n k dep) (hk:k+(KK 1+2)≤100000) {r:Nat} :
  ∃ O' m n',n≤n'∧Ws tN tb tv B O' n' (k+(KK 1+2)) dep∧tN≤m∧m≤B.length∧∀ (w:Nat) (c:AExit→St→Option (AVal × Heap)),
   xK T code188B0 ⟨[(0,.val (.ptr (some (B.length,0)))),(6,.val (.int .i64 r))],⟨O,b,w⟩⟩ (k:=⟨c⟩)=c .normal ⟨[],⟨O',b,min w m⟩⟩:=by
 have hKK:KK 1=5:=rfl
 have h151:Expr tN tb tv B b dep 151 1 (KK 1):=(jy hb 1 1 (by decide) (by decide) (by decide)).1
 have c4:r=0∨r=1∨r=2∨(¬ r=0∧¬ r=1∧¬ r=2):=by omega
 rcases c4 with rfl | rfl | rfl | ⟨c1,c2,c3⟩
 ·obtain ⟨O1,m1,p1,l1,u1,e1⟩:=s150 h hb (by omega) (op:=25) (nn:=7)
  obtain ⟨O2,m2,p2,l2,u2,e2⟩:=s154 p1 hb (by omega) (op:=184) (c:=[115,121,115]) (m:=[97,100,100]) (d:=[40,91,66,41,73]) (by decide) (by decide) (by decide)
  obtain ⟨O3,m3,p3,l3,u3,e3⟩:=s150 p2 hb (by omega) (op:=54) (nn:=1)
  refine ⟨O3,min m1 (min m2 m3),n+1+1+1,by omega,p3.le (by omega),by omega,by omega,fun w c=>?_⟩
  simp (disch:=omega) [code188B0,e1,e2,e3,cj]
 ·obtain ⟨O1,m1,⟨n1,k1,p1⟩,l1,u1,e1⟩:=h151 O n k h (by omega)
  obtain ⟨O2,m2,p2,l2,u2,e2⟩:=s154 p1 hb (by omega) (op:=184) (c:=[115,121,115]) (m:=[103,101,116]) (d:=[40,73,41,91,66]) (by decide) (by decide) (by decide)
  obtain ⟨O3,m3,p3,l3,u3,e3⟩:=s150 p2 hb (by omega) (op:=58) (nn:=7)
  refine ⟨O3,min m1 (min m2 m3),n1+1+1,by omega,p3.le (by omega),by omega,by omega,fun w c=>?_⟩
  simp (disch:=omega) [code188B0,e1,e2,e3,cj]
 ·obtain ⟨O1,m1,⟨n1,k1,p1⟩,l1,u1,e1⟩:=h151 O n k h (by omega)
  obtain ⟨O2,m2,p2,l2,u2,e2⟩:=s150 p1 hb (by omega) (op:=25) (nn:=7)
  obtain ⟨O3,m3,p3,l3,u3,e3⟩:=s154 p2 hb (by omega) (op:=184) (c:=[115,121,115]) (m:=[115,101,116]) (d:=[40,73,91,66,41,86]) (by decide) (by decide) (by decide)
  refine ⟨O3,min m1 (min m2 m3),n1+1+1,by omega,p3.le (by omega),by omega,by omega,fun w c=>?_⟩
  simp (disch:=omega) [code188B0,e1,e2,e3,cj]
 ·obtain ⟨O2,m2,p2,l2,u2,e2⟩:=s154 h hb (by omega) (op:=184) (c:=[115,121,115]) (m:=[99,111,117,110,116]) (d:=[40,41,73]) (by decide) (by decide) (by decide)
  obtain ⟨O3,m3,p3,l3,u3,e3⟩:=s150 p2 hb (by omega) (op:=54) (nn:=1)
  refine ⟨O3,min m2 m3,n+1+1,by omega,p3.le (by omega),by omega,by omega,fun w c=>?_⟩
  simp (disch:=omega) [code188B0,c1,natInt1,c2,natInt2,c3,e2,e3,cj]
theorem s188 (hb:b≤tN):Act tN tb tv B b dep 188 [.ptr (some (B.length,0))] (KK 1+2):=fun O n k h hk=>by
 obtain ⟨hlt,hBO⟩:=h.len
 obtain ⟨_,_,_,_,_,_,_,_,_,hat,_⟩:=h.at'
 obtain ⟨r,O1,nx1,f1,f2,f3,f4,f5,f6⟩:=h.next hb (x:=4) (by decide) (by decide)
 obtain ⟨O2,m2,n2,q1,p2,l2,u2,e2⟩:=sw188 hb f2 hk (r:=r)
 obtain ⟨m',q4,q5,q6⟩:=gm f5 l2
 have hm2:min O.length m'=m':=by omega
 refine ⟨O2,m',⟨n2,q1,p2⟩,q4,by omega,fun w=>?_⟩
 simp (disch:=omega) [av t188,code188,hat,f6,e2,q6,hm2]
end
end Go.Abs.AbsMake
