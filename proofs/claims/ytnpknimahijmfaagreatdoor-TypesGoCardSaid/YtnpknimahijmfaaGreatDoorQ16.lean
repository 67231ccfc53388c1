/-
  Texts joined.
-/
import Derived.Test.YtnpknimahijmfaaGreatDoorQ0
import Derived.Test.YtnpknimahijmfaaGreatDoorQ15
import Derived.Test.YtnpknimahijmfaaGreatDoorQ14
import Derived.Test.YtnpknimahijmfaaGreatDoorQ13
import Derived.Test.YtnpknimahijmfaaGreatDoorQ12
set_option linter.unusedVariables false
set_option linter.unusedSimpArgs false
set_option maxRecDepth 100000
namespace Go.Abs.AbsHier
open Go.Abs.AbsDesc
variable {os O:List AObj} {b w:Nat}
theorem ib_iff (c:UInt8):∀ s:Str,0≤Lib.indexByte s c ↔ ∃ x ∈ s,x=c
 | []=>by simp [Lib.indexByte]
 | x :: s=>by
  have ih:=ib_iff c s
  have hge:=Lib.indexByte_ge s c
  unfold Lib.indexByte
  by_cases e:x=c
  ·simp [e]
  ·have e':(x == c)=false:=by simpa using e
   rw [e']
   simp only [am,if_false,bt,exists_eq_or_imp,e,false_or,← ih]
   by_cases h1:Lib.indexByte s c = -1
   ·simp [h1]
   ·have h2:(Lib.indexByte s c == -1)=false:=by simpa using h1
    rw [h2]
    simp only [am,if_false]
    omega
theorem ib_any (c:UInt8) (s:Str):decide (0≤Lib.indexByte s c)=s.any fun x=>decide (x=c):=by
 rw [jv,decide_eq_true_eq,ib_iff]
 simp
section
attribute [-simp] getElem?_pos getElem?_neg
theorem l158 {s:Str} (hn:s.length≤9223372036854775807):∀ (j i:Nat) (w:Nat),i+j=s.length→∀ (k:AExit→St→Option (AVal × Heap)),
  xK T (.loop code158L0) ⟨[(0,.val (.str s)),(3,.val (.int .i64 i))],⟨O,b,w⟩⟩ (k:=⟨k⟩) =
  if (s.drop i).any (fun x=>decide (x=47)) then k .ret ⟨[(2,.val (.bool false))],⟨O,b,w⟩⟩ else k (.exit 0) ⟨[(0,.val (.str s))],⟨O,b,w⟩⟩
 | 0,i,w,hi,k=>by
  rw [cf,bg (by omega)]
  simp (disch:=omega) [code158L0,iltF]
 | j+1,i,w,hi,k=>by
  obtain ⟨x,hx⟩:∃ x,s[i]? = some x:=⟨_,ah (by omega)⟩
  have hd:s.drop i=x :: s.drop (i+1):=by
   have:=ai hx
   rw [ah this] at hx
   rw [ea this,dg hx]
  have ih:=l158 hn j (i+1) w (by omega) k
  have e2:((i+1:Nat):Int)=(i:Int)+1:=by omega
  rw [e2] at ih
  have e1:((x.toNat:Int)=47)=(x=47):=jw x 47 (by omega)
  rw [cf,hd]
  simp only [List.any_cons]
  generalize ACode.loop code158L0=L at ih ⊢
  by_cases c:x=47
  ·simp (disch:=omega) [gz,gs,code158L0,hx,iltT,ileT,nltT,nleT,df,c]
  ·simp (disch:=omega) [-List.any_eq_true,gz,gs,code158L0,hx,e1,iltT,ileT,nltT,nleT,df,c,ih]
end
theorem s158 {s:Str} (hn:s.length≤9223372036854775807):xCall T 158 [.str s] ⟨O,b,w⟩=some (.bool (isName s),⟨O,b,w⟩):=by
 have hl:=fun w k=>l158 (O:=O) (b:=b) hn s.length 0 w (by omega) k
 simp only [bl,dr] at hl
 have h26:=fun w=>s26 (os:=O) (b:=b) (w:=w) hn
 unfold isName
 rw [ib_any]
 rcases ap (s.any fun x=>decide (x=47)) with c | c
 ·simp only [c,if_true] at hl ⊢
  simp (disch:=omega) [-getElem?_pos,-getElem?_neg,gz,gs,av t158,code158,hl]
 ·simp only [c,am,if_false] at hl ⊢
  simp (disch:=omega) [-getElem?_pos,-getElem?_neg,gz,gs,av t158,code158,hl,h26]
def goL (W:List UnitU):Nat→Option UnitU→List UnitU
 | 0,_=>[]
 | _+1,none=>[]
 | k+1,some v=>v :: goL W k (findU W v.super)
def lineU (W:List UnitU) (k:Nat) (n:Str):List UnitU:=goL W k (findU W n)
theorem ids_slice {n m:Nat} {a:Option (Nat × Nat)} {c:Option Nat} (h:under n a):∀ i ∈ (AVal.slice a m c).ids,i < n:=by
 cases a with
 | none=>simp [AVal.ids]
 | some p=>obtain ⟨j,o⟩:=p; simp only [AVal.ids,du]; rintro i rfl; exact h _ _ rfl
theorem ids_unit {n:Nat} {u:UnitU} (h:u.low n):∀ i ∈ AVal.idsL u.cells,i < n:=by
 intro i hi
 simp only [UnitU.cells,AVal.idsL,AVal.ids,bz,ci,bo] at hi
 rcases hi with hi | hi
 ·exact ids_slice h.f i hi
 ·exact ids_slice h.m i hi
theorem ids_units {n:Nat}:∀ {L:List UnitU},(∀ u ∈ L,u.low n)→∀ i ∈ AVal.idsL (L.flatMap UnitU.cells),i < n
 | [],_=>by simp [AVal.idsL]
 | u :: L,h=>by
  intro i hi
  rw [co,idsL_app,bo] at hi
  rcases hi with hi | hi
  ·exact ids_unit (h u (bc ..)) i hi
  ·exact ids_units (fun v hv=>h v (bj _ hv)) i hi
theorem ids_slice_len {m:Nat} {a:Option (Nat × Nat)} {c:Option Nat}:(AVal.slice a m c).ids.length≤1:=by
 cases a with
 | none=>simp [AVal.ids]
 | some p=>simp [AVal.ids]
theorem ids_units_len:∀ {L:List UnitU},(AVal.idsL (L.flatMap UnitU.cells)).length≤2*L.length
 | []=>by simp [AVal.idsL]
 | u :: L=>by
  have ih:=ids_units_len (L:=L)
  have h1:=ids_slice_len (m:=u.fields.length) (a:=u.fa) (c:=u.fc)
  have h2:=ids_slice_len (m:=u.meths.length) (a:=u.ma) (c:=u.mc)
  rw [co,idsL_app,aw,a8]
  have:(AVal.idsL u.cells).length=(AVal.slice u.fa u.fields.length u.fc).ids.length+(AVal.slice u.ma u.meths.length u.mc).ids.length:=by
   simp only [UnitU.cells,AVal.idsL,aw,br,gt]
   simp [AVal.ids]
  omega
theorem ren_slice {n m:Nat} {a:Option (Nat × Nat)} {c:Option Nat} {f:Nat→Nat} (hf:∀ i,i < n→f i=i) (h:under n a):(AVal.slice a m c).ren f = .slice a m c:=by
 cases a with
 | none=>simp [AVal.ren]
 | some p=>obtain ⟨j,o⟩:=p; simp [AVal.ren,hf j (h _ _ rfl)]
theorem ren_unit {n:Nat} {u:UnitU} {f:Nat→Nat} (hf:∀ i,i < n→f i=i) (h:u.low n):AVal.renL f u.cells=u.cells:=by
 simp only [UnitU.cells,AVal.renL,ren_slice hf h.f,ren_slice hf h.m]
 simp [AVal.ren]
theorem ren_units {n:Nat} {f:Nat→Nat} (hf:∀ i,i < n→f i=i):∀ {L:List UnitU},(∀ u ∈ L,u.low n)→AVal.renL f (L.flatMap UnitU.cells)=L.flatMap UnitU.cells
 | [],_=>rfl
 | u :: L,h=>by
  rw [co,renL_app,ren_unit hf (h u (bc ..)),ren_units hf fun v hv=>h v (bj _ hv)]
theorem reach_low {h:Heap} {n0:Nat} {acc:List Nat}:∀ (l:List Nat) (f:Nat),l.length < f→(∀ i ∈ l,i < n0)→reach h n0 f l acc=acc
 | [],f+1,_,_=>rfl
 | i :: l,f+1,hf,hl=>by
  rw [gi,if_pos (hl i (bc ..))]
  exact reach_low l f (by simp at hf; omega) fun j hj=>hl j (bj _ hj)
def rowV (n:Nat) (L:List UnitU):AVal:=if L=[] then .slice none 0 (some 0) else .slice (some (n,0)) L.length none
def rowO (O:List AObj) (L:List UnitU):List AObj:=if L=[] then O else O++[.cells 4 (L.flatMap UnitU.cells)]
theorem row_fin {G:List AObj} {L:List UnitU} {w0 w2:Nat} (hne:L≠[]) (hl:L.length≤400) (hlow:∀ u ∈ L,u.low O.length) (hw:O.length≤w2) :
  finish ⟨O,b,w0⟩ (.slice (some (O.length+G.length,0)) L.length none) ⟨O++(G++[.cells 4 (L.flatMap UnitU.cells)]),b,w2⟩=(.slice (some (O.length,0)) L.length none,⟨O++[.cells 4 (L.flatMap UnitU.cells)],b,w0⟩):=by
 have hg:(O++(G++[AObj.cells 4 (L.flatMap UnitU.cells)]))[O.length+G.length]? = some (.cells 4 (L.flatMap UnitU.cells)):=by rw [dy,dp]; rfl
 have hlen:=ids_units_len (L:=L)
 have hids:=ids_units hlow
 have hr:reach ⟨O++(G++[AObj.cells 4 (L.flatMap UnitU.cells)]),b,w2⟩ O.length 1000 [O.length+G.length] []=[O.length+G.length]:=by
  rw [gi,if_neg (by omega),if_neg (by simp)]
  simp only [Heap.get,hg,ce,de,idsC,ci,bz]
  exact reach_low _ _ (by omega) hids
 have hv:AVal.under O.length (.slice (some (O.length+G.length,0)) L.length none)=false:=by simp [AVal.under]
 have hw2:(⟨O,b,w0⟩:Heap).size≤(⟨O++(G++[AObj.cells 4 (L.flatMap UnitU.cells)]),b,w2⟩:Heap).wmin:=hw
 refine (finish_keep hw2 hv hr fun i hi=>?_).trans ?_
 ·simp only [AVal.ids,co,iz,Heap.get,hg,ce,de,idsC,ci,b0,bz,bt] at hi
  rcases hi with rfl | hi
  ·exact .inr (et _)
  ·exact .inl (hids i hi)
 ·have hfv:(fun i=>if i < O.length then i else O.length+idxIn i [O.length+G.length]) (O.length+G.length)=O.length:=by
   show (if O.length+G.length < O.length then _ else _)=_
   rw [if_neg (by omega)]; simp [idxIn]
  have hren:AVal.renL (fun i=>if i < O.length then i else O.length+idxIn i [O.length+G.length]) (L.flatMap UnitU.cells)=L.flatMap UnitU.cells:=ren_units (n:=O.length) (fun i hi=>if_pos hi) hlow
  have key:∀ f:Nat→Nat,f (O.length+G.length)=O.length→AVal.renL f (L.flatMap UnitU.cells)=L.flatMap UnitU.cells →
    ((AVal.slice (some (O.length+G.length,0)) L.length none).ren f,(⟨O++[O.length+G.length].map fun i=>(((⟨O++(G++[AObj.cells 4 (L.flatMap UnitU.cells)]),b,w2⟩:Heap).get i).map (AObj.ren f)).getD .dead,b,w0⟩:Heap)) =
     (.slice (some (O.length,0)) L.length none,⟨O++[.cells 4 (L.flatMap UnitU.cells)],b,w0⟩):=by
   intro f h1 h2
   simp only [AVal.ren,Heap.get,hg,ce,de,bu,eu,renC,h1,h2]
  exact key _ hfv hren
def accV (n:Nat) (A:List UnitU):AVal:=if A=[] then .slice none 0 (some 0) else .slice (some (n,0)) A.length none
def accR (A:List UnitU):List AObj:=if A=[] then [] else [.cells 4 (A.flatMap UnitU.cells)]
theorem cellsO_len (u:Option UnitU):(cellsO u).length=4:=by cases u <;> rfl
section
attribute [-simp] getElem?_pos getElem?_neg
theorem l112 {W:List UnitU} {a:Option (Nat × Nat)} {c:Option Nat} (hR:Row O 4 UnitU.cells W a) (hl:W.length≤200) (hok:∀ u ∈ W,u.low O.length) (hb:b≤O.length):∀ (j:Nat) (u:Option UnitU) (A:List UnitU) (G:List AObj) (w:Nat),A.length+j=W.length+1→O.length≤w →
  ∃ G' w',O.length≤w'∧∀ (k:AExit→St→Option (AVal × Heap)),
  xK T (.loop code112L0) ⟨[(0,.val (.slice a W.length c)),(5,.val (accV (O.length+G.length) A)),(6,.var (cellsO u)),(7,.val (.bool u.isSome))],⟨O++(G++accR A),b,w⟩⟩ (k:=⟨k⟩) =
  k (.exit 0) ⟨[(5,.val (accV (O.length+G'.length) (A++goL W j u)))],⟨O++(G'++accR (A++goL W j u)),b,w'⟩⟩
 | j,none,A,G,w,hj,hw=>by
  refine ⟨G,w,hw,fun k=>?_⟩
  have e:goL W j none=[]:=by cases j <;> rfl
  rw [cf,e,ci]
  generalize accV (O.length+G.length) A=v
  simp (disch:=omega) [code112L0]
 | 0,some u,A,G,w,hj,hw=>by
  refine ⟨G,w,hw,fun k=>?_⟩
  have hne:A≠[]:=by rintro rfl; simp at hj
  have hlt:¬ ((A.length:Int)≤W.length):=by omega
  rw [cf,show goL W 0 (some u)=[] from rfl,ci]
  simp only [accV,hne,if_false]
  simp (disch:=omega) [code112L0,hlt]
 | j+1,some u,A,G,w,hj,hw=>by
  have hle:((A.length:Int)≤W.length):=by omega
  have hcl:u.cells.length=4:=rfl
  have hcz:cellsO (some u)=u.cells:=rfl
  have h160:=fun X w=>s160 (O:=O++X) (b:=b) (w:=w) (c:=c) ((Pre.app O X).row hR) (by omega) (fun v hv=>⟨(hok v hv).f.le (by simp),(hok v hv).m.le (by simp)⟩) (n:=u.super)
  have hcz2:=cellsO_len (findU W u.super)
  have hcu:u.cells=[.str u.name,.str u.super,.slice u.fa u.fields.length u.fc,.slice u.ma u.meths.length u.mc]:=rfl
  have hb1:b≤O.length+G.length:=by omega
  by_cases hA:A=[]
  ·subst hA
   obtain ⟨G',w',r1,ih⟩:=l112 (c:=c) hR hl hok hb j (findU W u.super) [u] (G++[.cells 4 u.cells]) w (by simp only [ew,br] at hj ⊢; omega) hw
   refine ⟨G',w',r1,fun k=>?_⟩
   have ih:=ih k
   have e:[u]++goL W j (findU W u.super)=[]++goL W (j+1) (some u):=rfl
   rw [e] at ih
   rw [cf,← ih]
   generalize ACode.loop code112L0=L
   simp only [accV,accR,if_true,ci,List.cons_ne_self,if_false,ew,aw,bh,co,iz,hcz,reduceCtorEq]
   simp only [br] at hle
   generalize cellsO (findU W u.super)=z at h160 hcz2 ⊢
   simp (disch:=omega) [gz,gs,code112L0,h160,hle,hcu,hcz2,dy,dp,gk,gb,nltT,nltF,iltT,ileT,nleT,cg]
  ·have hA0:A.length≠0:=fun e=>hA (bq e)
   obtain ⟨G',w',r1,ih⟩:=l112 (c:=c) hR hl hok hb j (findU W u.super) (A++[u]) (G++[.dead,.cells 4 u.cells]) (min w (O.length+G.length)) (by simp only [aw,ew]; omega) (by omega)
   refine ⟨G',w',r1,fun k=>?_⟩
   have ih:=ih k
   have e:A++[u]++goL W j (findU W u.super)=A++goL W (j+1) (some u):=by rw [bh]; rfl
   rw [e] at ih
   have hC:(A.flatMap UnitU.cells).length=A.length*4:=flat_len UnitU.cells 4 (fun _=>rfl) A
   have hT:(A.flatMap UnitU.cells).take (A.length*4)=A.flatMap UnitU.cells:=eh (by omega)
   have hA2:A++[u]≠[]:=by simp
   have z1:(A.length+1)*80≤140737488355328:=by omega
   have z2:A.length≤9223372036854775806:=by omega
   rw [cf,← ih]
   generalize ACode.loop code112L0=L
   simp only [accV,accR,hA,hA2,if_false,ew,aw,bh,gr,co,iz,ci,hcz,b0,bz,a8,br]
   generalize A.flatMap UnitU.cells=C at hC hT ⊢
   generalize cellsO (findU W u.super)=z at h160 hcz2 ⊢
   simp (disch:=omega) [gz,gs,code112L0,h160,hle,hcu,hcz2,hC,hT,hA0,hb1,z1,z2,dy,dp,gk,gb,nltT,nltF,iltT,ileT,nleT,cg]
end
theorem goL_len (W:List UnitU):∀ (j:Nat) (u:Option UnitU),(goL W j u).length≤j
 | 0,_=>aj _
 | _+1,none=>by simp [goL]
 | j+1,some v=>by
  have:=goL_len W j (findU W v.super)
  simp only [goL,a8]; omega
theorem goL_mem {W:List UnitU}:∀ {j:Nat} {u:Option UnitU},(∀ v,u=some v→v ∈ W)→∀ v ∈ goL W j u,v ∈ W
 | 0,_,_,v,hv=>by simp [goL] at hv
 | _+1,none,_,v,hv=>by simp [goL] at hv
 | j+1,some x,h,v,hv=>by
  simp only [goL,bt] at hv
  rcases hv with rfl | hv
  ·exact h _ rfl
  ·exact goL_mem (fun y hy=>(ki hy).1) v hv
theorem lineU_mem {W:List UnitU} {k:Nat} {n:Str} {v:UnitU} (h:v ∈ lineU W k n):v ∈ W:=goL_mem (fun _ hy=>(ki hy).1) v h
theorem s112 {W:List UnitU} {a:Option (Nat × Nat)} {c:Option Nat} (hR:Row O 4 UnitU.cells W a) (hl:W.length≤200) (hok:∀ u ∈ W,u.low O.length) (hb:b≤O.length) {n:Str} :
  xCall T 112 [.slice a W.length c,.str n] ⟨O,b,w⟩=some (rowV O.length (lineU W (W.length+1) n),⟨rowO O (lineU W (W.length+1) n),b,w⟩):=by
 have h160:=fun w=>s160 (b:=b) (w:=w) (c:=c) hR (by omega) hok (n:=n)
 obtain ⟨G',w',r1,hk⟩:=l112 (b:=b) (c:=c) hR hl hok hb (W.length+1) (findU W n) [] [] O.length (by simp) (aj _)
 have hz:=cellsO_len (findU W n)
 have hlen:=goL_len W (W.length+1) (findU W n)
 have hmem:∀ v ∈ lineU W (W.length+1) n,v.low O.length:=fun v hv=>hok v (lineU_mem hv)
 unfold lineU at hmem ⊢
 simp only [bz,ci,br,gt,accV,accR,if_true] at hk
 generalize findU W n=u at *
 generalize goL W (W.length+1) u=L at *
 by_cases hL:L=[]
 ·subst hL
  simp only [if_true,ci] at hk
  simp (disch:=omega) [-getElem?_pos,-getElem?_neg,gz,gs,av t112,code112,h160,hz,hk,rowV,rowO]
  intro h; omega
 ·simp only [hL,if_false] at hk
  have hf:=fun w0=>row_fin (b:=b) (G:=G') (w0:=w0) hL (by omega) hmem r1
  simp (disch:=omega) [-getElem?_pos,-getElem?_neg,-finish,gz,gs,av t112,code112,h160,hz,hk,hf,hL,rowV,rowO]
end Go.Abs.AbsHier

namespace Go.Abs.AbsHier
open Go.Abs.AbsDesc
variable {os O H:List AObj} {b w:Nat}
theorem row_rowO {O:List AObj} {L:List UnitU}:Row (rowO O L) 4 UnitU.cells L (if L=[] then none else some (O.length,0)):=by
 by_cases h:L=[]
 ·subst h; exact ⟨fun h=>absurd rfl h⟩
 ·simp only [rowO,h,if_false]
  exact Row.mk0 (fun _=>rfl) (by rw [dp]; rfl)
theorem rowV_eq (n:Nat) (L:List UnitU):rowV n L = .slice (if L=[] then none else some (n,0)) L.length (if L=[] then some 0 else none):=by
 unfold rowV
 split <;> simp_all
theorem rowO_pre (O:List AObj) (L:List UnitU):Pre O (rowO O L):=by
 unfold rowO
 split
 ·exact Pre.refl _
 ·exact Pre.app _ _
theorem gl {α:Type} {L:List α} {i:Nat} {x:α} (h:L[i]? = some x):L.drop i=x :: L.drop (i+1):=by
 have:=ai h
 rw [ah this] at h
 rw [ea this,dg h]
def fieldAt (L:List FieldU) (n d:Str):Option FieldU:=L.find? fun x=>decide (x.name=n) && decide (x.desc=d)
def methAt (L:List MethU) (n d:Str):Option MethU:=L.find? fun x=>decide (x.name=n) && decide (x.desc=d)
end Go.Abs.AbsHier

namespace Go.Abs.AbsHier
open Go.Abs.AbsDesc
variable {os O H:List AObj} {b w:Nat}
section
attribute [-simp] getElem?_pos getElem?_neg
theorem l157a {W:List UnitU} {a:Option (Nat × Nat)} {c:Option Nat} {L:List Str} {aa:Option (Nat × Nat)} {cc:Option Nat} {x4 x5:List AVal} (hR:Row H 4 UnitU.cells W a) (hl:W.length≤9223372036854775807) (hok:∀ u ∈ W,u.low H.length) (hA:Row H 1 strC L aa) (hL:L.length≤9223372036854775807) (ht:∀ t ∈ L,t.length≤9223372036854775807) :
  ∀ (j i:Nat) (w:Nat),i+j=L.length→∀ (k:AExit→St→Option (AVal × Heap)),
  xK T (.loop code157L3) ⟨[(0,.val (.slice a W.length c)),(4,.var x4),(5,.var x5),(41,.val (.slice aa L.length cc)),(42,.val (.int .i64 L.length)),(43,.val (.int .i64 i))],⟨H,b,w⟩⟩ (k:=⟨k⟩) =
   if (L.drop i).all (thereU W) then k (.exit 0) ⟨[(0,.val (.slice a W.length c)),(4,.var x4),(5,.var x5)],⟨H,b,w⟩⟩ else k .ret ⟨[(6,.val (.bool false))],⟨H,b,w⟩⟩
 | 0,i,w,hi,k=>by
  rw [cf,bg (by omega)]
  simp (disch:=omega) [code157L3,iltF]
 | j+1,i,w,hi,k=>by
  obtain ⟨t,hx⟩:∃ t,L[i]? = some t:=⟨_,ah (by omega)⟩
  obtain ⟨p,o,cs,rfl,hp,hpl,hcs,hv⟩:=ig hA hx
  have hg:cs[o+i]? = some (.str t):=by
   have:(List.take 1 (List.drop (o+i*1) cs))[0]? = some (.str t):=by rw [hv]; rfl
   simpa using this
  have h159:=fun w=>s159 (b:=b) (w:=w) (c:=c) hR hl hok (ht t (az hx))
  have ih:=l157a (c:=c) (cc:=cc) (x4:=x4) (x5:=x5) hR hl hok hA hL ht j (i+1) w (by omega) k
  have e2:((i+1:Nat):Int)=(i:Int)+1:=by omega
  rw [e2] at ih
  rw [cf,gl hx]
  simp only [dl]
  generalize ACode.loop code157L3=L' at ih ⊢
  rcases ap (thereU W t) with c1 | c1
  ·simp (disch:=omega) [-List.all_eq_true,gz,gs,code157L3,nltT,nltF,iltT,ileT,nleT,df,h159,hp,hg,c1,ih]
  ·simp (disch:=omega) [-List.all_eq_true,gz,gs,code157L3,nltT,nltF,iltT,ileT,nleT,df,h159,hp,hg,c1]
end
def trapU (W:List UnitU) (t:TrapU):Bool:=decide (t.cls=[]) || (findU W t.cls).isSome
section
attribute [-simp] getElem?_pos getElem?_neg
theorem l157t {W:List UnitU} {a:Option (Nat × Nat)} {c:Option Nat} {L:List TrapU} {aa:Option (Nat × Nat)} {cc:Option Nat} {x4 x5:List AVal} (hR:Row H 4 UnitU.cells W a) (hl:W.length≤9223372036854775807) (hok:∀ u ∈ W,u.low H.length) (hA:Row H 4 TrapU.cells L aa) (hL:L.length≤9223372036854775807) :
  ∀ (j i:Nat) (w:Nat),i+j=L.length→∀ (k:AExit→St→Option (AVal × Heap)),
  xK T (.loop code157L2) ⟨[(0,.val (.slice a W.length c)),(4,.var x4),(5,.var x5),(53,.val (.slice aa L.length cc)),(54,.val (.int .i64 L.length)),(55,.val (.int .i64 i))],⟨H,b,w⟩⟩ (k:=⟨k⟩) =
   if (L.drop i).all (trapU W) then k (.exit 2) ⟨[(0,.val (.slice a W.length c)),(4,.var x4),(5,.var x5)],⟨H,b,w⟩⟩ else k .ret ⟨[(6,.val (.bool false))],⟨H,b,w⟩⟩
 | 0,i,w,hi,k=>by
  rw [cf,bg (by omega)]
  simp (disch:=omega) [code157L2,iltF]
 | j+1,i,w,hi,k=>by
  obtain ⟨t,hx⟩:∃ t,L[i]? = some t:=⟨_,ah (by omega)⟩
  obtain ⟨p,o,cs,rfl,hp,hpl,hcs,hv⟩:=ig hA hx
  have h160:=fun w=>s160 (b:=b) (w:=w) (c:=c) hR hl hok (n:=t.cls)
  have hz:=cellsO_len (findU W t.cls)
  have ih:=l157t (c:=c) (cc:=cc) (x4:=x4) (x5:=x5) hR hl hok hA hL j (i+1) w (by omega) k
  have e2:((i+1:Nat):Int)=(i:Int)+1:=by omega
  rw [e2] at ih
  rw [cf,gl hx]
  simp only [dl]
  generalize ACode.loop code157L2=L' at ih ⊢
  unfold TrapU.cells at hv
  have ho:trapU W t=(decide (t.cls=[]) || (findU W t.cls).isSome):=rfl
  generalize findU W t.cls=q at h160 hz ho
  by_cases c0:t.cls=[]
  ·have ho:trapU W t=true:=by rw [ho,c0]; rfl
   rw [c0] at h160
   simp (disch:=omega) [-List.all_eq_true,gz,gs,code157L2,nltT,nltF,iltT,ileT,nleT,df,h160,hz,hp,hv,c0,ho,ih]
  ·cases q with
   | none =>
    have ho:trapU W t=false:=by rw [ho]; simp [c0]
    simp (disch:=omega) [-List.all_eq_true,gz,gs,code157L2,nltT,nltF,iltT,ileT,nleT,df,h160,hz,hp,hv,c0,ho]
   | some q =>
    have ho:trapU W t=true:=by rw [ho]; simp
    simp (disch:=omega) [-List.all_eq_true,gz,gs,code157L2,nltT,nltF,iltT,ileT,nleT,df,h160,hz,hp,hv,c0,ho,ih]
end
def oddM (m x:MethU):Bool:=decide (x.name=m.name) && (decide (x.desc=m.desc) && !decide (x.st=m.st))
section
attribute [-simp] getElem?_pos getElem?_neg
theorem l157m {L:List MethU} {aa:Option (Nat × Nat)} {cc:Option Nat} {m:MethU} {x1 x2 x3:AVal} (hA:Row H 8 MethU.cells L aa) (hL:L.length≤9223372036854775807) :
  ∀ (j i:Nat) (w:Nat),i+j=L.length→∀ (k:AExit→St→Option (AVal × Heap)),
  xK T (.loop code157L0) ⟨[(5,.var m.cells),(77,.val x1),(78,.val x2),(79,.val x3),(84,.val (.slice aa L.length cc)),(85,.val (.int .i64 L.length)),(86,.val (.int .i64 i))],⟨H,b,w⟩⟩ (k:=⟨k⟩) =
   if (L.drop i).all (fun x=>!oddM m x) then k (.exit 6) ⟨[(5,.var m.cells),(77,.val x1),(78,.val x2),(79,.val x3)],⟨H,b,w⟩⟩ else k .ret ⟨[(6,.val (.bool false))],⟨H,b,w⟩⟩
 | 0,i,w,hi,k=>by
  rw [cf,bg (by omega)]
  simp (disch:=omega) [code157L0,iltF]
 | j+1,i,w,hi,k=>by
  obtain ⟨x,hx⟩:∃ x,L[i]? = some x:=⟨_,ah (by omega)⟩
  obtain ⟨p,o,cs,rfl,hp,hpl,hcs,hv⟩:=ig hA hx
  have ih:=l157m (cc:=cc) (m:=m) (x1:=x1) (x2:=x2) (x3:=x3) hA hL j (i+1) w (by omega) k
  have e2:((i+1:Nat):Int)=(i:Int)+1:=by omega
  rw [e2] at ih
  have hcm:m.cells=[.bool m.st,.str m.name,.str m.desc,.int .i64 m.stack,.int .i64 m.locals,.slice m.ca m.code.length m.cc,.slice m.ta m.traps.length m.tc,.slice m.xa m.maps.length m.xc]:=rfl
  have hcx:x.cells=[.bool x.st,.str x.name,.str x.desc,.int .i64 x.stack,.int .i64 x.locals,.slice x.ca x.code.length x.cc,.slice x.ta x.traps.length x.tc,.slice x.xa x.maps.length x.xc]:=rfl
  rw [hcm] at ih ⊢
  rw [hcx] at hv
  rw [cf,gl hx]
  simp only [dl]
  generalize ACode.loop code157L0=L' at ih ⊢
  have ho:oddM m x=(decide (x.name=m.name) && (decide (x.desc=m.desc) && !decide (x.st=m.st))):=rfl
  by_cases c1:x.name=m.name
  ·by_cases c2:x.desc=m.desc
   ·by_cases c3:x.st=m.st
    ·have ho:oddM m x=false:=by rw [ho,c1,c2,c3]; simp
     simp (disch:=omega) [-List.all_eq_true,gz,gs,code157L0,nltT,nltF,iltT,ileT,nleT,df,hp,hv,c1,c2,c3,ho,ih]
    ·have ho:oddM m x=true:=by rw [ho]; simp [c1,c2,c3]
     simp (disch:=omega) [-List.all_eq_true,gz,gs,code157L0,nltT,nltF,iltT,ileT,nleT,df,hp,hv,c1,c2,c3,ho]
   ·have ho:oddM m x=false:=by rw [ho]; simp [c1,c2]
    simp (disch:=omega) [-List.all_eq_true,gz,gs,code157L0,nltT,nltF,iltT,ileT,nleT,df,hp,hv,c1,c2,ho,ih]
  ·have ho:oddM m x=false:=by rw [ho]; simp [c1]
   simp (disch:=omega) [-List.all_eq_true,gz,gs,code157L0,nltT,nltF,iltT,ileT,nleT,df,hp,hv,c1,ho,ih]
end
def evenM (m:MethU) (v:UnitU):Bool:=v.meths.all fun x=>!oddM m x
section
attribute [-simp] getElem?_pos getElem?_neg
theorem l157l {L:List UnitU} {aa:Option (Nat × Nat)} {cc:Option Nat} {m:MethU} (hA:Row H 4 UnitU.cells L aa) (hL:L.length≤9223372036854775807) (hm:∀ u ∈ L,Row H 8 MethU.cells u.meths u.ma∧u.meths.length≤9223372036854775807) :
  ∀ (j i:Nat) (w:Nat),i+j=L.length→∀ (k:AExit→St→Option (AVal × Heap)),
  xK T (.loop code157L1) ⟨[(5,.var m.cells),(77,.val (.slice aa L.length cc)),(78,.val (.int .i64 L.length)),(79,.val (.int .i64 i))],⟨H,b,w⟩⟩ (k:=⟨k⟩) =
   if (L.drop i).all (evenM m) then k (.exit 4) ⟨[],⟨H,b,w⟩⟩ else k .ret ⟨[(6,.val (.bool false))],⟨H,b,w⟩⟩
 | 0,i,w,hi,k=>by
  rw [cf,bg (by omega)]
  simp (disch:=omega) [code157L1,iltF]
 | j+1,i,w,hi,k=>by
  obtain ⟨u,hx⟩:∃ u,L[i]? = some u:=⟨_,ah (by omega)⟩
  obtain ⟨p,o,cs,rfl,hp,hpl,hcs,hv⟩:=ig hA hx
  obtain ⟨h1,h2⟩:=hm u (az hx)
  have hin:=fun (x1 x2 x3:AVal) w k=>l157m (b:=b) (cc:=u.mc) (m:=m) (x1:=x1) (x2:=x2) (x3:=x3) h1 h2 u.meths.length 0 w (by omega) k
  simp only [bl,dr] at hin
  have ih:=l157l (cc:=cc) (m:=m) hA hL hm j (i+1) w (by omega) k
  have e2:((i+1:Nat):Int)=(i:Int)+1:=by omega
  rw [e2] at ih
  have hcu:u.cells=[.str u.name,.str u.super,.slice u.fa u.fields.length u.fc,.slice u.ma u.meths.length u.mc]:=rfl
  rw [hcu] at hv
  rw [cf,gl hx]
  simp only [dl]
  generalize ACode.loop code157L1=L' at ih ⊢
  have ho:evenM m u=u.meths.all fun x=>!oddM m x:=rfl
  rw [← ho] at hin
  generalize m.cells=mc at ih hin ⊢
  rcases ap (evenM m u) with c1 | c1
  ·rw [c1] at hin
   simp only [if_true] at hin
   simp (disch:=omega) [-List.all_eq_true,gz,gs,code157L1,nltT,nltF,iltT,ileT,nleT,df,hp,hv,c1,hin,ih]
  ·rw [c1] at hin
   simp only [am,if_false] at hin
   simp (disch:=omega) [-List.all_eq_true,gz,gs,code157L1,nltT,nltF,iltT,ileT,nleT,df,hp,hv,c1,hin]
end
def methodU (W:List UnitU) (u:UnitU) (m:MethU):Bool:=match methL m.desc with
 | some (A,r)=>isName m.name && (thereU W r && (A.all (thereU W) && (m.traps.all (trapU W) && (lineU W (W.length+1) u.name).all (evenM m))))
 | none=>false
structure Units (O:List AObj) (W:List UnitU) (a:Option (Nat × Nat)):Prop where
 r:Row O 4 UnitU.cells W a
 n:W.length≤200
 ok:∀ u ∈ W,u.ok O
theorem Units.pre {O O':List AObj} {W:List UnitU} {a:Option (Nat × Nat)} (h:Units O W a) (hp:Pre O O'):Units O' W a:=⟨hp.row h.r,h.n,fun u hu=>(h.ok u hu).pre hp⟩
theorem Units.low {O:List AObj} {W:List UnitU} {a:Option (Nat × Nat)} (h:Units O W a):∀ u ∈ W,u.low O.length:=fun u hu=>(h.ok u hu).low
theorem Units.len {O:List AObj} {W:List UnitU} {a:Option (Nat × Nat)} (h:Units O W a):W.length≤9223372036854775807:=dh h.n (by decide)
theorem methO_pre (O:List AObj) (q:Option (List Str × Str)):Pre O (methO O q):=by
 unfold methO
 split
 ·exact Pre.app _ _
 ·exact Pre.refl _
def argA (n:Nat):List Str→Option (Nat × Nat)
 | []=>none
 | _ :: _=>some (n,0)
def argC:List Str→Option Nat
 | []=>some 0
 | _ :: _=>none
section
attribute [-simp] getElem?_pos getElem?_neg
attribute [local simp] gz gs
theorem s157 {W:List UnitU} {a:Option (Nat × Nat)} {c:Option Nat} (hW:Units O W a) {u:UnitU} {m:MethU} (hm:m.ok O) (hb:b≤O.length) :
  xCall T 157 [.slice a W.length c,.agg u.cells,.agg m.cells] ⟨O,b,w⟩=some (.bool (methodU W u m),⟨O,b,w⟩):=by
 have hmd:m.desc.length≤9223372036854775807:=hm.desc
 have hmn:m.name.length≤9223372036854775807:=hm.name
 have h37:=fun w=>s37 (os:=O) (b:=b) (w:=w) (s:=m.desc) hmd hb
 have hcm:m.cells=[.bool m.st,.str m.name,.str m.desc,.int .i64 m.stack,.int .i64 m.locals,.slice m.ca m.code.length m.cc,.slice m.ta m.traps.length m.tc,.slice m.xa m.maps.length m.xc]:=rfl
 have hcu:u.cells=[.str u.name,.str u.super,.slice u.fa u.fields.length u.fc,.slice u.ma u.meths.length u.mc]:=rfl
 unfold methodU
 cases hq:methL m.desc with
 | none =>
  rw [hq] at h37
  simp only [methV,methO] at h37
  have h158:=fun w=>s158 (O:=O) (b:=b) (w:=w) hmn
  cases c0:isName m.name with
  | false=>simp (disch:=omega) [-List.all_eq_true,av t157,code157,h37,h158,nltT,nltF,iltT,ileT,nleT,hcm,hcu,c0]
  | true=>simp (disch:=omega) [-List.all_eq_true,av t157,code157,h37,h158,nltT,nltF,iltT,ileT,nleT,hcm,hcu,c0]
 | some q =>
  obtain ⟨A,r⟩:=q
  obtain ⟨q1,q2,q3⟩:=methL_len hq
  have hp1:=methO_pre O (methL m.desc)
  rw [hq] at h37 hp1
  have hW1:=hW.pre hp1
  have hm1:=hm.pre hp1
  have hrow:Row (methO O (some (A,r))) 1 strC A (argA O.length A):=by
   cases A with
   | nil=>exact ⟨fun h=>absurd rfl h⟩
   | cons x A=>exact Row.mk0 (fun _=>rfl) (by simp only [methO]; rw [dp,flat_strs]; rfl)
  have hv:methV O.length (some (A,r)) = .tuple [.slice (argA O.length A) A.length (argC A),.str r,.int .i64 0]:=by cases A <;> rfl
  rw [hv] at h37
  have hb1:b≤(methO O (some (A,r))).length:=dh hb hp1.len
  have hlenO:=hp1.len
  clear hv
  generalize argA O.length A=aa at h37 hrow
  generalize argC A=cc at h37
  generalize methO O (some (A,r))=H at h37 hp1 hW1 hm1 hrow hb1 hlenO
  have h158:=fun w=>s158 (O:=H) (b:=b) (w:=w) hmn
  have h159:=fun w=>s159 (b:=b) (w:=w) (c:=c) hW1.r hW1.len hW1.low (t:=r) (by omega)
  have hk1:=fun x4 x5 w k=>l157a (b:=b) (c:=c) (cc:=cc) (x4:=x4) (x5:=x5) hW1.r hW1.len hW1.low hrow (by omega) (fun t ht=>by have:=q3 t ht; omega) A.length 0 w (by omega) k
  have hk2:=fun x4 x5 w k=>l157t (b:=b) (c:=c) (cc:=m.tc) (x4:=x4) (x5:=x5) hW1.r hW1.len hW1.low hm1.t hm1.tn m.traps.length 0 w (by omega) k
  have h112:=fun w=>s112 (b:=b) (w:=w) (c:=c) hW1.r hW1.n hW1.low hb1 (n:=u.name)
  rw [rowV_eq] at h112
  have hlen:(lineU W (W.length+1) u.name).length≤W.length+1:=goL_len _ _ _
  have hWn:=hW.n
  have hmem:∀ v ∈ lineU W (W.length+1) u.name,Row (rowO H (lineU W (W.length+1) u.name)) 8 MethU.cells v.meths v.ma∧v.meths.length≤9223372036854775807:=fun v hv=>by
   have:=hW1.ok v (lineU_mem hv)
   exact ⟨(rowO_pre _ _).row this.m,this.mn⟩
  have hk3:=fun cc w k=>l157l (b:=b) (cc:=cc) (m:=m) row_rowO (by omega) hmem (lineU W (W.length+1) u.name).length 0 w (by omega) k
  simp only [bl,dr] at hk1 hk2 hk3
  generalize lineU W (W.length+1) u.name=L at *
  generalize (if L=[] then none else some (H.length,0))=la at h112 hk3
  generalize (if L=[] then some 0 else none:Option Nat)=lc at h112
  generalize rowO H L=H2 at h112 hk3
  rw [hcm,hcu] at *
  simp only
  cases c0:isName m.name with
  | false=>simp (disch:=omega) [-List.all_eq_true,av t157,code157,h37,h158,nltT,nltF,iltT,ileT,nleT,c0]
  | true =>
   cases c1:thereU W r with
   | false=>simp (disch:=omega) [-List.all_eq_true,av t157,code157,h37,h158,nltT,nltF,iltT,ileT,nleT,h159,c0,c1]
   | true =>
    cases c2:A.all (thereU W) with
    | false =>
     simp only [c2,am,if_false] at hk1
     simp (disch:=omega) [-List.all_eq_true,av t157,code157,h37,h158,nltT,nltF,iltT,ileT,nleT,h159,hk1,c0,c1,c2]
    | true =>
     simp only [c2,if_true] at hk1
     cases c3:m.traps.all (trapU W) with
     | false =>
      simp only [c3,am,if_false] at hk2
      simp (disch:=omega) [-List.all_eq_true,av t157,code157,h37,h158,nltT,nltF,iltT,ileT,nleT,h159,hk1,hk2,c0,c1,c2,c3]
     | true =>
      simp only [c3,if_true] at hk2
      cases c4:L.all (evenM m) with
      | false =>
       simp only [c4,am,if_false] at hk3
       simp (disch:=omega) [-List.all_eq_true,av t157,code157,h37,h158,nltT,nltF,iltT,ileT,nleT,h159,hk1,hk2,hk3,h112,c0,c1,c2,c3,c4]
      | true =>
       simp only [c4,if_true] at hk3
       simp (disch:=omega) [-List.all_eq_true,av t157,code157,h37,h158,nltT,nltF,iltT,ileT,nleT,h159,hk1,hk2,hk3,h112,c0,c1,c2,c3,c4]
end
end Go.Abs.AbsHier

namespace Go.Abs.AbsHier
open Go.Abs.AbsDesc
variable {os O H:List AObj} {b w:Nat}
theorem row_take {α:Type} {e:Nat} {f:α→List AVal} {L:List α} {a:Option (Nat × Nat)} (h:Row H e f L a) (i:Nat):Row H e f (L.take i) a :=
 ⟨fun hne=>by
  obtain ⟨p,o,cs,h1,h2,h3⟩:=h.at' (fun e=>hne (by rw [e,List.take_nil]))
  refine ⟨p,o,cs,h1,h2,fun j x hx=>h3 j x ?_⟩
  have hj:=ai hx
  rw [List.length_take] at hj
  rw [ed (by omega)] at hx
  exact hx⟩
section
attribute [-simp] getElem?_pos getElem?_neg
theorem l106f {L:List FieldU} {a:Option (Nat × Nat)} {c:Option Nat} {f:FieldU} {x0 x50 x51 x52:AVal} {x3:List AVal} (hR:Row H 3 FieldU.cells L a) (hL:L.length≤9223372036854775807):∀ (j i:Nat) (w:Nat),i+j=L.length→∀ (k:AExit→St→Option (AVal × Heap)),
  xK T (.loop code106L2) ⟨[(0,.val x0),(3,.var x3),(7,.var f.cells),(50,.val x50),(51,.val x51),(52,.val x52),(77,.val (.slice a L.length c)),(78,.val (.int .i64 L.length)),(79,.val (.int .i64 i))],⟨H,b,w⟩⟩ (k:=⟨k⟩) =
   if (L.drop i).all (fun g=>!decide (f.name=g.name)) then k (.exit 2) ⟨[(0,.val x0),(3,.var x3),(50,.val x50),(51,.val x51),(52,.val x52)],⟨H,b,w⟩⟩ else k .ret ⟨[(4,.val (.bool false))],⟨H,b,w⟩⟩
 | 0,i,w,hi,k=>by
  rw [cf,bg (by omega)]
  simp (disch:=omega) [code106L2,iltF]
 | j+1,i,w,hi,k=>by
  obtain ⟨g,hx⟩:∃ g,L[i]? = some g:=⟨_,ah (by omega)⟩
  obtain ⟨p,o,cs,rfl,hp,hpl,hcs,hv⟩:=ig hR hx
  have ih:=l106f (c:=c) (f:=f) (x0:=x0) (x50:=x50) (x51:=x51) (x52:=x52) (x3:=x3) hR hL j (i+1) w (by omega) k
  have e2:((i+1:Nat):Int)=(i:Int)+1:=by omega
  rw [e2] at ih
  unfold FieldU.cells at hv ih ⊢
  rw [cf,gl hx]
  simp only [dl]
  generalize ACode.loop code106L2=L' at ih ⊢
  by_cases c1:f.name=g.name
  ·simp only [c1,decide_true,Bool.not_true,dk]
   simp (disch:=omega) [-List.all_eq_true,gz,gs,code106L2,nltT,nltF,iltT,ileT,nleT,df,hp,hv,c1]
  ·simp only [decide_eq_false c1,kk,cz]
   simp (disch:=omega) [-List.all_eq_true,gz,gs,code106L2,nltT,nltF,iltT,ileT,nleT,df,hp,hv,c1,ih]
theorem l106m {L:List MethU} {a:Option (Nat × Nat)} {c:Option Nat} {m:MethU} {x0 x91 x92 x93:AVal} {x3:List AVal} (hR:Row H 8 MethU.cells L a) (hL:L.length≤9223372036854775807):∀ (j i:Nat) (w:Nat),i+j=L.length→∀ (k:AExit→St→Option (AVal × Heap)),
  xK T (.loop code106L0) ⟨[(0,.val x0),(3,.var x3),(11,.var m.cells),(91,.val x91),(92,.val x92),(93,.val x93),(106,.val (.slice a L.length c)),(107,.val (.int .i64 L.length)),(108,.val (.int .i64 i))],⟨H,b,w⟩⟩ (k:=⟨k⟩) =
   if (L.drop i).all (fun g=>!(decide (m.name=g.name) && decide (m.desc=g.desc))) then k (.exit 6) ⟨[(0,.val x0),(3,.var x3),(91,.val x91),(92,.val x92),(93,.val x93)],⟨H,b,w⟩⟩ else k .ret ⟨[(4,.val (.bool false))],⟨H,b,w⟩⟩
 | 0,i,w,hi,k=>by
  rw [cf,bg (by omega)]
  simp (disch:=omega) [code106L0,iltF]
 | j+1,i,w,hi,k=>by
  obtain ⟨g,hx⟩:∃ g,L[i]? = some g:=⟨_,ah (by omega)⟩
  obtain ⟨p,o,cs,rfl,hp,hpl,hcs,hv⟩:=ig hR hx
  have ih:=l106m (c:=c) (m:=m) (x0:=x0) (x91:=x91) (x92:=x92) (x93:=x93) (x3:=x3) hR hL j (i+1) w (by omega) k
  have e2:((i+1:Nat):Int)=(i:Int)+1:=by omega
  rw [e2] at ih
  unfold MethU.cells at hv ih ⊢
  rw [cf,gl hx]
  simp only [dl]
  generalize ACode.loop code106L0=L' at ih ⊢
  by_cases c1:m.name=g.name
  ·by_cases c2:m.desc=g.desc
   ·simp only [c1,c2,decide_true,Bool.and_self,Bool.not_true,dk]
    simp (disch:=omega) [-List.all_eq_true,gz,gs,code106L0,nltT,nltF,iltT,ileT,nleT,df,hp,hv,c1,c2]
   ·simp only [decide_eq_false c2,Bool.and_false,kk,cz]
    rw [c1] at ih
    simp (disch:=omega) [-List.all_eq_true,gz,gs,code106L0,nltT,nltF,iltT,ileT,nleT,df,hp,hv,c1,c2,ih]
  ·simp only [decide_eq_false c1,dk,kk,cz]
   simp (disch:=omega) [-List.all_eq_true,gz,gs,code106L0,nltT,nltF,iltT,ileT,nleT,df,hp,hv,c1,ih]
end
def fieldsU (W:List UnitU):List FieldU→List FieldU→Bool
 | _,[]=>true
 | A,f :: r=>isName f.name && (isTy f.desc && (thereU W f.desc && (A.all (fun g=>!decide (f.name=g.name)) && fieldsU W (A++[f]) r)))
def methsU (W:List UnitU) (u:UnitU):List MethU→List MethU→Bool
 | _,[]=>true
 | A,m :: r=>methodU W u m && (A.all (fun g=>!(decide (m.name=g.name) && decide (m.desc=g.desc))) && methsU W u (A++[m]) r)
theorem bounds_to {n i:Nat} {c:Option Nat} (hi:i≤n) (hc:∀ k,c=some k→n≤k):bounds n c none (some (.int .i64 i)) none=some (0,i,c):=by
 unfold bounds upTo lowB
 cases c with
 | none =>
  simp only [jh]
  rw [if_pos ⟨by omega,by omega⟩]
  simp
 | some k =>
  have:=hc k rfl
  simp only [de]
  rw [if_pos ⟨by omega,by omega⟩]
  simp
section
attribute [-simp] getElem?_pos getElem?_neg
theorem l106F {W:List UnitU} {a:Option (Nat × Nat)} {c:Option Nat} (hW:Units O W a) {u:UnitU} (hu:u.ok O) (hc:u.cap) (hb:b≤O.length):∀ (j i:Nat) (w:Nat),i+j=u.fields.length→∀ (k:AExit→St→Option (AVal × Heap)),
  xK T (.loop code106L3) ⟨[(0,.val (.slice a W.length c)),(3,.var u.cells),(50,.val (.slice u.fa u.fields.length u.fc)),(51,.val (.int .i64 u.fields.length)),(52,.val (.int .i64 i))],⟨O,b,w⟩⟩ (k:=⟨k⟩) =
   if fieldsU W (u.fields.take i) (u.fields.drop i) then k (.exit 0) ⟨[(0,.val (.slice a W.length c)),(3,.var u.cells)],⟨O,b,w⟩⟩ else k .ret ⟨[(4,.val (.bool false))],⟨O,b,w⟩⟩
 | 0,i,w,hi,k=>by
  rw [cf,bg (by omega)]
  simp (disch:=omega) [code106L3,iltF,fieldsU]
 | j+1,i,w,hi,k=>by
  obtain ⟨f,hx⟩:∃ f,u.fields[i]? = some f:=⟨_,ah (by omega)⟩
  obtain ⟨p,o,cs,ha,hp,hpl,hcs,hv⟩:=ig hu.f hx
  have hfn:u.fields.length≤9223372036854775807:=hu.fn
  obtain ⟨hn1,hn2⟩:=hu.fok f (az hx)
  have ih:=l106F (c:=c) hW hu hc hb j (i+1) w (by omega) k
  have e2:((i+1:Nat):Int)=(i:Int)+1:=by omega
  rw [e2,take_next hx] at ih
  have h158:=fun w=>s158 (O:=O) (b:=b) (w:=w) (s:=f.name) hn1
  have h28:=fun w=>s28 (os:=O) (b:=b) (w:=w) (s:=f.desc) hn2
  have h159:=fun w=>s159 (b:=b) (w:=w) (c:=c) hW.r hW.len hW.low (t:=f.desc) hn2
  have hbd:=bounds_to (n:=u.fields.length) (i:=i) (c:=u.fc) (by omega) hc.f
  have hlt:(u.fields.take i).length=i:=by rw [List.length_take]; omega
  have hin:=fun (x0 x50 x51 x52:AVal) x3 c w k=>l106f (b:=b) (c:=c) (f:=f) (x0:=x0) (x50:=x50) (x51:=x51) (x52:=x52) (x3:=x3) (row_take hu.f i) (by omega) i 0 w (by omega) k
  simp only [bl,dr,hlt] at hin
  have hcu:u.cells=[.str u.name,.str u.super,.slice u.fa u.fields.length u.fc,.slice u.ma u.meths.length u.mc]:=rfl
  rw [hcu] at ih ⊢
  rw [ha] at hin ih ⊢
  unfold FieldU.cells at hv hin
  rw [cf,gl hx]
  simp only [fieldsU]
  generalize ACode.loop code106L3=L' at ih ⊢
  rcases ap (isName f.name) with c1 | c1
  ·rcases ap (isTy f.desc) with c2 | c2
   ·rcases ap (thereU W f.desc) with c3 | c3
    ·rcases ap ((u.fields.take i).all fun g=>!decide (f.name=g.name)) with c4 | c4
     ·rw [c4] at hin
      simp only [c1,c2,c3,c4,cz,if_true] at hin ⊢
      simp (disch:=omega) [-List.all_eq_true,gz,gs,code106L3,nltT,nltF,iltT,ileT,nleT,df,-bounds,hbd,h158,h28,h159,hin,hp,hv,c1,c2,c3,ih]
     ·rw [c4] at hin
      simp only [c1,c2,c3,c4,cz,dk,am,if_false] at hin ⊢
      simp (disch:=omega) [-List.all_eq_true,gz,gs,code106L3,nltT,nltF,iltT,ileT,nleT,df,-bounds,hbd,h158,h28,h159,hin,hp,hv,c1,c2,c3]
    ·simp only [c1,c2,c3,cz,dk,am,if_false]
     simp (disch:=omega) [-List.all_eq_true,gz,gs,code106L3,nltT,nltF,iltT,ileT,nleT,df,h158,h28,h159,hp,hv,c1,c2,c3]
   ·simp only [c1,c2,cz,dk,am,if_false]
    simp (disch:=omega) [-List.all_eq_true,gz,gs,code106L3,nltT,nltF,iltT,ileT,nleT,df,h158,h28,hp,hv,c1,c2]
  ·simp only [c1,dk,am,if_false]
   simp (disch:=omega) [-List.all_eq_true,gz,gs,code106L3,nltT,nltF,iltT,ileT,nleT,df,h158,hp,hv,c1]
end
section
attribute [-simp] getElem?_pos getElem?_neg List.all_eq_true
attribute [local simp] gz gs nltT nltF iltT iltF ileT nleT df
theorem l106M {W:List UnitU} {a:Option (Nat × Nat)} {c:Option Nat} (hW:Units O W a) {u:UnitU} (hu:u.ok O) (hc:u.cap) (hb:b≤O.length):∀ (j i:Nat) (w:Nat),i+j=u.meths.length→∀ (k:AExit→St→Option (AVal × Heap)),
  xK T (.loop code106L1) ⟨[(0,.val (.slice a W.length c)),(3,.var u.cells),(91,.val (.slice u.ma u.meths.length u.mc)),(92,.val (.int .i64 u.meths.length)),(93,.val (.int .i64 i))],⟨O,b,w⟩⟩ (k:=⟨k⟩) =
   if methsU W u (u.meths.take i) (u.meths.drop i) then k (.exit 4) ⟨[],⟨O,b,w⟩⟩ else k .ret ⟨[(4,.val (.bool false))],⟨O,b,w⟩⟩
 | 0,i,w,hi,k=>by
  rw [cf,bg (by omega)]
  simp (disch:=omega) [code106L1,methsU]
 | j+1,i,w,hi,k=>by
  obtain ⟨m,hx⟩:∃ m,u.meths[i]? = some m:=⟨_,ah (by omega)⟩
  obtain ⟨p,o,cs,ha,hp,hpl,hcs,hv⟩:=ig hu.m hx
  have hfn:u.meths.length≤9223372036854775807:=hu.mn
  have ih:=l106M (c:=c) hW hu hc hb j (i+1) w (by omega) k
  have e2:((i+1:Nat):Int)=(i:Int)+1:=by omega
  rw [e2,take_next hx] at ih
  have h157:=fun w=>s157 (b:=b) (w:=w) (c:=c) hW (u:=u) (hu.mok m (az hx)) hb
  have hbd:=bounds_to (n:=u.meths.length) (i:=i) (c:=u.mc) (by omega) hc.m
  have hlt:(u.meths.take i).length=i:=by rw [List.length_take]; omega
  have hin:=fun (x0 x91 x92 x93:AVal) x3 c w k=>l106m (b:=b) (c:=c) (m:=m) (x0:=x0) (x91:=x91) (x92:=x92) (x93:=x93) (x3:=x3) (row_take hu.m i) (by omega) i 0 w (by omega) k
  simp only [bl,dr,hlt] at hin
  have hcu:u.cells=[.str u.name,.str u.super,.slice u.fa u.fields.length u.fc,.slice u.ma u.meths.length u.mc]:=rfl
  have hcl:m.cells.length=8:=rfl
  rw [hcu] at ih h157 ⊢
  rw [ha] at hin ih h157 ⊢
  rw [cf,gl hx]
  simp only [methsU]
  generalize ACode.loop code106L1=L' at ih ⊢
  unfold MethU.cells at hv hin h157
  rcases ap (methodU W u m) with c1 | c1
  ·rcases ap ((u.meths.take i).all fun g=>!(decide (m.name=g.name) && decide (m.desc=g.desc))) with c4 | c4
   ·rw [c4] at hin
    simp only [c1,c4,cz,if_true] at hin ⊢
    simp (disch:=omega) [code106L1,-bounds,hbd,h157,hin,hp,hv,c1,ih]
   ·rw [c4] at hin
    simp only [c1,c4,cz,dk,am,if_false] at hin ⊢
    simp (disch:=omega) [code106L1,-bounds,hbd,h157,hin,hp,hv,c1]
  ·simp only [c1,dk,am,if_false]
   simp (disch:=omega) [code106L1,-bounds,hbd,h157,hp,hv,c1]
end
def lastName (l:List UnitU):Str:=((l.getLast?).map UnitU.name).getD []
def unitU (W:List UnitU) (u:UnitU):Bool :=
 isClass u.name && (!decide (u.super=sysT) && (decide (2≤(lineU W (W.length+1) u.name).length) && (decide ((lineU W (W.length+1) u.name).length≤W.length) && (decide (lastName (lineU W (W.length+1) u.name)=objectT) && (fieldsU W [] u.fields && methsU W u [] u.meths)))))
end Go.Abs.AbsHier

namespace Go.Abs.AbsHier
open Go.Abs.AbsDesc
variable {os O H:List AObj} {b w:Nat}
theorem getLast_at {L:List UnitU} {x:UnitU} (h:L[L.length - 1]? = some x):lastName L=x.name:=by
 unfold lastName
 rw [List.getLast?_eq_getElem?,h]; rfl
section
attribute [-simp] getElem?_pos getElem?_neg List.all_eq_true
attribute [local simp] gz gs nltT nltF iltT iltF ileT nleT df
theorem s106 {W:List UnitU} {a:Option (Nat × Nat)} {c:Option Nat} (hW:Units O W a) {u:UnitU} (hu:u.ok O) (hc:u.cap) (hb:b≤O.length) :
  xCall T 106 [.slice a W.length c,.agg u.cells] ⟨O,b,w⟩=some (.bool (unitU W u),⟨O,b,w⟩):=by
 have h112:=fun w=>s112 (b:=b) (w:=w) (c:=c) hW.r hW.n hW.low hb (n:=u.name)
 have hun:u.name.length≤9223372036854775807:=hu.name
 have h26:=fun O w=>s26 (os:=O) (b:=b) (w:=w) (s:=u.name) hun
 have hlen:(lineU W (W.length+1) u.name).length≤W.length+1:=goL_len _ _ _
 have hn:=hW.n
 have hcu:u.cells=[.str u.name,.str u.super,.slice u.fa u.fields.length u.fc,.slice u.ma u.meths.length u.mc]:=rfl
 unfold unitU sysT objectT
 generalize hl:lineU W (W.length+1) u.name=l at *
 have hpre:=rowO_pre O l
 have hb':b≤(rowO O l).length:=dh hb hpre.len
 have hF:=fun w k=>l106F (b:=b) (c:=c) (hW.pre hpre) (hu.pre hpre) hc hb' u.fields.length 0 w (by omega) k
 have hM:=fun w k=>l106M (b:=b) (c:=c) (hW.pre hpre) (hu.pre hpre) hc hb' u.meths.length 0 w (by omega) k
 simp only [bl,List.take_zero,dr] at hF hM
 rw [hcu] at hF hM ⊢
 rcases ap (isClass u.name) with c1 | c1
 ·by_cases c2:u.super=[115,121,115]
  ·simp only [c1,decide_eq_true c2,Bool.not_true,cz,dk]
   rw [rowV_eq] at h112
   generalize (if l=[] then none else some (O.length,0))=aa at h112
   generalize (if l=[] then some 0 else none)=cc at h112
   generalize rowO O l=HH at h112
   simp (disch:=omega) [av t106,code106,h112,h26,c1,c2]
  ·by_cases c3:2≤l.length
   ·have hne:l≠[]:=by rintro rfl; simp at c3
    obtain ⟨x,hx⟩:∃ x,l[l.length - 1]? = some x:=⟨_,ah (by omega)⟩
    have hR:=row_rowO (O:=O) (L:=l)
    obtain ⟨p,o,cs,ha,hp,hpl,hcs,hv⟩:=ig hR hx
    rw [rowV_eq,ha] at h112
    rw [getLast_at hx]
    have hsub:(l.length:Int) - 1=((l.length - 1:Nat):Int):=by omega
    have hcx:(cs.drop (o+(l.length - 1)*4)).take 4=[.str x.name,.str x.super,.slice x.fa x.fields.length x.fc,.slice x.ma x.meths.length x.mc]:=hv
    have hx0:cs[o+(l.length - 1)*4]? = some (.str x.name):=by
     have:=congrArg (fun z=>z[0]?) hcx
     simpa [List.getElem?_take,dt] using this
    generalize (if l=[] then some 0 else none)=cc at h112
    generalize rowO O l=HH at *
    have n3:¬ ((l.length:Int) < 2):=by omega
    simp only [c1,decide_eq_false c2,decide_eq_true c3,kk,cz]
    by_cases c4:l.length≤W.length
    ·have n4:¬ ((W.length:Int) < l.length):=by omega
     simp only [decide_eq_true c4,cz]
     by_cases c5:x.name=[79,98,106,101,99,116]
     ·simp only [decide_eq_true c5,cz]
      rcases ap (fieldsU W [] u.fields) with c6 | c6
      ·simp only [c6,if_true,cz] at hF ⊢
       rcases ap (methsU W u [] u.meths) with c7 | c7
       ·simp only [c7,if_true] at hM ⊢
        simp (disch:=omega) [av t106,code106,h112,h26,c1,c2,n3,n4,hp,hsub,hx0,c5,hF,hM]
       ·simp only [c7,am,if_false] at hM ⊢
        simp (disch:=omega) [av t106,code106,h112,h26,c1,c2,n3,n4,hp,hsub,hx0,c5,hF,hM]
      ·simp only [c6,am,if_false,dk] at hF ⊢
       simp (disch:=omega) [av t106,code106,h112,h26,c1,c2,n3,n4,hp,hsub,hx0,c5,hF]
     ·simp only [decide_eq_false c5,dk]
      simp (disch:=omega) [av t106,code106,h112,h26,c1,c2,n3,n4,hp,hsub,hx0,c5]
    ·have n4:(W.length:Int) < l.length:=by omega
     simp only [decide_eq_false c4,dk]
     simp (disch:=omega) [av t106,code106,h112,h26,c1,c2,n3,n4]
   ·have n3:(l.length:Int) < 2:=by omega
    simp only [c1,decide_eq_false c2,decide_eq_false c3,kk,cz,dk]
    rw [rowV_eq] at h112
    generalize (if l=[] then none else some (O.length,0))=aa at h112
    generalize (if l=[] then some 0 else none)=cc at h112
    generalize rowO O l=HH at h112
    simp (disch:=omega) [av t106,code106,h112,h26,c1,c2,n3]
 ·simp only [c1,dk]
  rw [rowV_eq] at h112
  generalize (if l=[] then none else some (O.length,0))=aa at h112
  generalize (if l=[] then some 0 else none)=cc at h112
  generalize rowO O l=HH at h112
  simp (disch:=omega) [av t106,code106,h112,h26,c1]
end
end Go.Abs.AbsHier

namespace Go.Abs.AbsHier
open Go.Abs.AbsDesc
variable {os O H:List AObj} {b w:Nat}
def natM (x:Str × Str):MethU:=⟨true,x.1,x.2,0,0,[],none,some 0,[],none,some 0,[],none,some 0⟩
def plainU (n s:Str):UnitU:=⟨n,s,[],none,some 0,[],none,some 0⟩
def sysU (m:Nat):UnitU:=⟨sysT,objectT,[],none,some 0,natL.map natM,some (m,0),some 8⟩
def built3 (m:Nat):List UnitU:=[plainU objectT [],plainU throwT objectT,sysU m]
def faultU (n:Str):UnitU:=plainU n throwT
def builtU (m:Nat):List UnitU:=built3 m++faultsL.map faultU
def natO:AObj:=.cells 8 ((natL.map natM).flatMap MethU.cells)
section
attribute [-simp] getElem?_pos getElem?_neg List.all_eq_true
attribute [local simp] gz gs nltT nltF iltT iltF ileT nleT df
theorem s115 {n d:Str} {h:Heap}:xCall T 115 [.str n,.str d] h=some (.agg (natM (n,d)).cells,h):=by
 obtain ⟨os,b,w⟩:=h
 simp (disch:=omega) [av t115,code115,natM,MethU.cells]
theorem l108 {m q lo:Nat} (hlo:lo≤os.length) (hb:b≤os.length) (hq:os.length≤q):∀ (j i p:Nat) (M:List AObj) (cc:Option Nat) (w:Nat),i+j=6→lo≤w→Pre os M→p≠q→os.length≤p→(cc=none∨(cc=some 3∧i=0)) →
  M[p]? = some (.cells 4 ((built3 m++(faultsL.take i).map faultU).flatMap UnitU.cells))→M[q]? = some (.cells 1 (faultsL.flatMap strC)) →
  ∃ M' p' w',lo≤w'∧Pre os M'∧os.length≤p'∧M'[p']? = some (.cells 4 ((builtU m).flatMap UnitU.cells))∧∀ (k:AExit→St→Option (AVal × Heap)),
  xK T (.loop code108L0) ⟨[(2,.val (.slice (some (p,0)) (3+i) cc)),(19,.val (.slice (some (q,0)) 6 (some 6))),(20,.val (.int .i64 6)),(21,.val (.int .i64 i))],⟨M,b,w⟩⟩ (k:=⟨k⟩) =
   k (.exit 0) ⟨[(2,.val (.slice (some (p',0)) 9 none))],⟨M',b,w'⟩⟩
 | 0,i,p,M,cc,w,hi,hw,hM,hpq,hp,hc,h1,h2=>by
  have:i=6:=by omega
  subst this
  obtain rfl:cc=none:=by (rcases hc with h | ⟨_,h⟩ <;> first | exact h | omega)
  refine ⟨M,p,w,hw,hM,hp,h1,fun k=>?_⟩
  rw [cf]
  simp (disch:=omega) [code108L0]
 | j+1,i,p,M,cc,w,hi,hw,hM,hpq,hp,hc,h1,h2=>by
  obtain ⟨x,hx⟩:∃ x,faultsL[i]? = some x:=⟨_,ah (show i < 6 by omega)⟩
  have hpl:=ai h1
  have hql:=ai h2
  have hx2:(faultsL.flatMap strC)[i]? = some (.str x):=by
   have:faultsL.flatMap strC=faultsL.map AVal.str:=rfl
   rw [this,cr,hx]; rfl
  generalize hA:built3 m++(faultsL.take i).map faultU=A at *
  have hAl:A.length=3+i:=by
   rw [← hA]; simp [built3,faultsL]; omega
  have hfl:(A.flatMap UnitU.cells).length=A.length*4:=flat_len UnitU.cells 4 (fun _=>rfl) A
  have hA2:built3 m++(faultsL.take (i+1)).map faultU=A++[faultU x]:=by
   rw [take_next hx,gy,← bh,hA]; rfl
  have e2:((i+1:Nat):Int)=(i:Int)+1:=by omega
  have e3:(3+(i+1))=3+i+1:=by omega
  have hMl:=hM.len
  have hbp:b≤p:=by omega
  have hz:∀ X w,rowOf 4 ⟨M++X,b,w⟩ (.slice (some (p,0)) (3+i) cc)=some (A.flatMap UnitU.cells):=fun X w=>rowOfC (by show (M++X)[p]? = _; rw [ag hpl]; exact h1) (by omega)
  have hp1:∀ X,(M++X)[p]? = some (.cells 4 (A.flatMap UnitU.cells)):=fun X=>by rw [ag hpl]; exact h1
  have hset:∀ X y,(M++X).set p y=M.set p y++X:=fun X y=>by rw [List.set_append_left _ _ hpl]
  have hfc:(faultU x).cells=[.str x,.str throwT,.slice none 0 (some 0),.slice none 0 (some 0)]:=rfl
  have hz2:∀ w,rowOf 4 ⟨M++[.cells 4 [.str x,.str [84,104,114,111,119,97,98,108,101],.slice none 0 (some 0),.slice none 0 (some 0)]],b,w⟩ (.slice (some (M.length,0)) 1 (some 1))=some [.str x,.str [84,104,114,111,119,97,98,108,101],.slice none 0 (some 0),.slice none 0 (some 0)]:=fun w=>rowOfC (by rw [dp]; rfl) rfl
  rcases hc with rfl | ⟨rfl,rfl⟩
  ·obtain ⟨M',p',w',r1,r2,r3,r5,ih⟩:=l108 (m:=m) hlo hb hq j (i+1) (M.length+1) (M.set p .dead++[.cells 4 (faultU x).cells,.cells 4 ((A++[faultU x]).flatMap UnitU.cells)]) none (min w p) (by omega) (by omega) ((hM.set _ hp).trans (Pre.app _ _)) (by omega) (by omega) (.inl rfl)
    (by rw [hA2,show M.length+1=(M.set p .dead).length+1 by simp,dy]; rfl) (by rw [ag (by simp; omega),aq hpq]; exact h2)
   refine ⟨M',p',w',r1,r2,r3,r5,fun k=>?_⟩
   have ih:=ih k
   rw [e2,e3,gr] at ih
   rw [cf,← ih]
   generalize ACode.loop code108L0=L'
   simp only [co,iz,ci,hfc,throwT]
   simp (disch:=omega) [code108L0,-rowOf,hz,hz2,hp1,h2,hx2,dy,dp,hset]
  ·obtain ⟨M',p',w',r1,r2,r3,r5,ih⟩:=l108 (m:=m) hlo hb hq j (0+1) (M.length+1) (M++[.cells 4 (faultU x).cells,.cells 4 ((A++[faultU x]).flatMap UnitU.cells)]) none w (by omega) (by omega) (hM.trans (Pre.app _ _)) (by omega) (by omega) (.inl rfl)
    (by rw [hA2,dy]; rfl) (by rw [ag (by omega)]; exact h2)
   refine ⟨M',p',w',r1,r2,r3,r5,fun k=>?_⟩
   have ih:=ih k
   rw [e2,e3,gr] at ih
   rw [cf,← ih]
   generalize ACode.loop code108L0=L'
   simp only [co,iz,ci,hfc,throwT]
   simp (disch:=omega) [code108L0,-rowOf,hz,hz2,hp1,h2,hx2,dy,dp,hset]
end
theorem ids_built (m:Nat):AVal.idsL ((builtU m).flatMap UnitU.cells)=[m]:=rfl
theorem ren_built (f:Nat→Nat) (m:Nat):AVal.renL f ((builtU m).flatMap UnitU.cells)=(builtU (f m)).flatMap UnitU.cells:=rfl
theorem ids_nat:natO.ids=[]:=rfl
theorem ren_nat (f:Nat→Nat):natO.ren f=natO:=rfl
theorem builtU_fin {M:List AObj} {p w0 w2:Nat} (hM:Pre (O++[natO]) M) (hp:O.length+1≤p) (h1:M[p]? = some (.cells 4 ((builtU O.length).flatMap UnitU.cells))) (hw:O.length≤w2) :
  finish ⟨O,b,w0⟩ (.slice (some (p,0)) 9 none) ⟨M,b,w2⟩=(.slice (some (O.length,0)) 9 none,⟨O++[.cells 4 ((builtU (O.length+1)).flatMap UnitU.cells),natO],b,w0⟩):=by
 have h2:M[O.length]? = some natO:=hM _ _ (by rw [dp]; rfl)
 have hr:reach ⟨M,b,w2⟩ O.length 1000 [p] []=[p,O.length]:=by
  rw [gi,if_neg (by omega),if_neg (by simp)]
  simp only [Heap.get,h1,ce,de,idsC,ids_built,ci,bz]
  rw [gi,if_neg (by omega),if_neg (by simp; omega)]
  simp only [Heap.get,h2,ce,de,ids_nat,ci,bz,b0]
  rfl
 have hv:AVal.under O.length (.slice (some (p,0)) 9 none)=false:=by simp [AVal.under]; omega
 have hw2:(⟨O,b,w0⟩:Heap).size≤(⟨M,b,w2⟩:Heap).wmin:=hw
 refine (finish_keep hw2 hv hr fun i hi=>?_).trans ?_
 ·simp only [AVal.ids,co,iz,Heap.get,h1,h2,ce,de,idsC,ids_built,ids_nat,ci,b0,bz,bt,ep,or_false] at hi ⊢
  omega
 ·have key:∀ f:Nat→Nat,f p=O.length→f O.length=O.length+1 →
    ((AVal.slice (some (p,0)) 9 none).ren f,(⟨O++[p,O.length].map fun i=>(((⟨M,b,w2⟩:Heap).get i).map (AObj.ren f)).getD .dead,b,w0⟩:Heap)) =
     (.slice (some (O.length,0)) 9 none,⟨O++[.cells 4 ((builtU (O.length+1)).flatMap UnitU.cells),natO],b,w0⟩):=by
   intro f e1 e2
   simp only [AVal.ren,Heap.get,h1,h2,ce,de,bu,eu,renC,e1,e2,ren_built,ren_nat]
  refine key _ ?_ ?_
  ·show (if p < O.length then p else _)=_
   rw [if_neg (by omega)]; simp [idxIn]
  ·have:p≠O.length:=by omega
   simp [idxIn,this]
theorem s108 (hb:b≤O.length):xCall T 108 [] ⟨O,b,w⟩=some (.slice (some (O.length,0)) 9 none,⟨O++[.cells 4 ((builtU (O.length+1)).flatMap UnitU.cells),natO],b,w⟩):=by
 have h115:=fun n d w=>s115 (n:=n) (d:=d) (h:=⟨O,b,w⟩)
 have hl:=l108 (os:=O++[natO]) (m:=O.length) (q:=O.length+2) (lo:=O.length) (b:=b) (by simp) (by simp; omega) (by simp) 6 0 (O.length+1) (O++[natO,.cells 4 ((built3 O.length).flatMap UnitU.cells),.cells 1 (faultsL.flatMap strC)]) (some 3) O.length (by simp) (aj _)
  (by have:=Pre.app (O++[natO]) [.cells 4 ((built3 O.length).flatMap UnitU.cells),.cells 1 (faultsL.flatMap strC)]; simpa using this) (by omega) (by simp) (.inr ⟨rfl,rfl⟩) (by rw [dy]; rfl) (by rw [dy]; rfl)
 obtain ⟨M',p',w',r1,r2,r3,r5,hk⟩:=hl
 have hf:=fun w0=>builtU_fin (b:=b) (w0:=w0) r2 (by simpa using r3) r5 r1
 simp only [natM,MethU.cells,br] at h115
 simp only [bl,gt,natO,natL,natM,built3,plainU,sysU,faultsL,UnitU.cells,MethU.cells,strC,bu,eu,co,iz,ci,b0,bz,br,a8,objectT,throwT,sysT] at hk
 simp (disch:=omega) [-getElem?_pos,-getElem?_neg,-List.all_eq_true,gz,gs,nltT,nltF,iltT,iltF,ileT,nleT,df,av t108,code108,h115,-finish,cg,dy,dp,hk,hf]
end Go.Abs.AbsHier

namespace Go.Abs.AbsHier
open Go.Abs.AbsDesc
variable {os O H:List AObj} {b w:Nat}
section
attribute [-simp] getElem?_pos getElem?_neg List.all_eq_true
attribute [local simp] gz gs nltT nltF iltT iltF ileT nleT df
theorem l107a {L:List UnitU} {a:Option (Nat × Nat)} {c:Option Nat} {u:UnitU} {x0 x4 x17 x18 x19:AVal} (hR:Row H 4 UnitU.cells L a) (hL:L.length≤9223372036854775807):∀ (j i:Nat) (w:Nat),i+j=L.length→∀ (k:AExit→St→Option (AVal × Heap)),
  xK T (.loop code107L1) ⟨[(0,.val x0),(4,.val x4),(6,.var u.cells),(17,.val x17),(18,.val x18),(19,.val x19),(26,.val (.slice a L.length c)),(27,.val (.int .i64 L.length)),(28,.val (.int .i64 i))],⟨H,b,w⟩⟩ (k:=⟨k⟩) =
   if (L.drop i).all (fun v=>!decide (u.name=v.name)) then k (.exit 2) ⟨[(0,.val x0),(4,.val x4),(17,.val x17),(18,.val x18),(19,.val x19)],⟨H,b,w⟩⟩ else k .ret ⟨[(2,.val (.slice none 0 (some 0))),(3,.val (.bool false))],⟨H,b,w⟩⟩
 | 0,i,w,hi,k=>by
  rw [cf,bg (by omega)]
  simp (disch:=omega) [code107L1]
 | j+1,i,w,hi,k=>by
  obtain ⟨v,hx⟩:∃ v,L[i]? = some v:=⟨_,ah (by omega)⟩
  obtain ⟨p,o,cs,ha,hp,hpl,hcs,hv⟩:=ig hR hx
  have ih:=l107a (c:=c) (u:=u) (x0:=x0) (x4:=x4) (x17:=x17) (x18:=x18) (x19:=x19) hR hL j (i+1) w (by omega) k
  have e2:((i+1:Nat):Int)=(i:Int)+1:=by omega
  rw [e2] at ih
  unfold UnitU.cells at ih hv ⊢
  rw [ha] at ih ⊢
  rw [cf,gl hx]
  simp only [dl]
  generalize ACode.loop code107L1=L' at ih ⊢
  by_cases c1:u.name=v.name
  ·simp only [decide_eq_true c1,Bool.not_true,dk]
   simp (disch:=omega) [code107L1,hp,hv,c1]
  ·simp only [decide_eq_false c1,kk,cz]
   simp (disch:=omega) [code107L1,hp,hv,c1,ih]
end
def namesU:List UnitU→List UnitU→Bool
 | _,[]=>true
 | A,u :: r=>A.all (fun v=>!decide (u.name=v.name)) && namesU (A++[u]) r
section
attribute [-simp] getElem?_pos getElem?_neg List.all_eq_true
attribute [local simp] gz gs nltT nltF iltT iltF ileT nleT df
theorem l107b {L:List UnitU} {a:Option (Nat × Nat)} {x0:AVal} (hR:Row H 4 UnitU.cells L a) (hL:L.length≤9223372036854775807):∀ (j i:Nat) (w:Nat),i+j=L.length→∀ (k:AExit→St→Option (AVal × Heap)),
  xK T (.loop code107L2) ⟨[(0,.val x0),(4,.val (.slice a L.length none)),(17,.val (.slice a L.length none)),(18,.val (.int .i64 L.length)),(19,.val (.int .i64 i))],⟨H,b,w⟩⟩ (k:=⟨k⟩) =
   if namesU (L.take i) (L.drop i) then k (.exit 0) ⟨[(0,.val x0),(4,.val (.slice a L.length none))],⟨H,b,w⟩⟩ else k .ret ⟨[(2,.val (.slice none 0 (some 0))),(3,.val (.bool false))],⟨H,b,w⟩⟩
 | 0,i,w,hi,k=>by
  rw [cf,bg (by omega)]
  simp (disch:=omega) [code107L2,namesU]
 | j+1,i,w,hi,k=>by
  obtain ⟨u,hx⟩:∃ v,L[i]? = some v:=⟨_,ah (by omega)⟩
  obtain ⟨p,o,cs,ha,hp,hpl,hcs,hv⟩:=ig hR hx
  have ih:=l107b (x0:=x0) hR hL j (i+1) w (by omega) k
  have e2:((i+1:Nat):Int)=(i:Int)+1:=by omega
  rw [e2,take_next hx] at ih
  have hlt:(L.take i).length=i:=by rw [List.length_take]; omega
  have hin:=fun (x4 x17 x18 x19:AVal) c w k=>l107a (b:=b) (c:=c) (u:=u) (x0:=x0) (x4:=x4) (x17:=x17) (x18:=x18) (x19:=x19) (row_take hR i) (by omega) i 0 w (by omega) k
  simp only [bl,dr,hlt] at hin
  have hbd:=bounds_to (n:=L.length) (i:=i) (c:=none) (by omega) (by simp)
  rw [ha] at hin ih ⊢
  rw [cf,gl hx]
  simp only [namesU]
  generalize ACode.loop code107L2=L' at ih ⊢
  unfold UnitU.cells at hv hin
  rcases ap ((L.take i).all (fun v=>!decide (u.name=v.name))) with c4 | c4
  ·rw [c4] at hin
   simp only [c4,cz,if_true] at hin ⊢
   simp (disch:=omega) [code107L2,-bounds,hbd,hin,hp,hv,ih]
  ·rw [c4] at hin
   simp only [c4,dk,am,if_false] at hin ⊢
   simp (disch:=omega) [code107L2,-bounds,hbd,hin,hp,hv]
theorem l107c {W:List UnitU} {p:Option (Nat × Nat)} {cw:Option Nat} {L:List UnitU} {a:Option (Nat × Nat)} {c:Option Nat} (hW:Units H W p) (hR:Row H 4 UnitU.cells L a) (hL:L.length≤9223372036854775807) (hok:∀ u ∈ L,u.ok H∧u.cap) (hb:b≤H.length):∀ (j i:Nat) (w:Nat),i+j=L.length→∀ (k:AExit→St→Option (AVal × Heap)),
  xK T (.loop code107L0) ⟨[(4,.val (.slice p W.length cw)),(39,.val (.slice a L.length c)),(40,.val (.int .i64 L.length)),(41,.val (.int .i64 i))],⟨H,b,w⟩⟩ (k:=⟨k⟩) =
   if (L.drop i).all (unitU W) then k (.exit 4) ⟨[(4,.val (.slice p W.length cw))],⟨H,b,w⟩⟩ else k .ret ⟨[(2,.val (.slice none 0 (some 0))),(3,.val (.bool false))],⟨H,b,w⟩⟩
 | 0,i,w,hi,k=>by
  rw [cf,bg (by omega)]
  simp (disch:=omega) [code107L0]
 | j+1,i,w,hi,k=>by
  obtain ⟨u,hx⟩:∃ v,L[i]? = some v:=⟨_,ah (by omega)⟩
  obtain ⟨q,o,cs,ha,hp,hpl,hcs,hv⟩:=ig hR hx
  have ih:=l107c (c:=c) (cw:=cw) hW hR hL hok hb j (i+1) w (by omega) k
  have e2:((i+1:Nat):Int)=(i:Int)+1:=by omega
  rw [e2] at ih
  obtain ⟨h1,h2⟩:=hok u (az hx)
  have h106:=fun w=>s106 (b:=b) (w:=w) (c:=cw) hW h1 h2 hb
  rw [ha] at ih ⊢
  rw [cf,gl hx]
  simp only [dl]
  generalize ACode.loop code107L0=L' at ih ⊢
  unfold UnitU.cells at hv h106
  rcases ap (unitU W u) with c4 | c4
  ·rw [c4] at h106
   simp only [c4,cz]
   simp (disch:=omega) [code107L0,h106,hp,hv,ih]
  ·rw [c4] at h106
   simp only [c4,dk,am,if_false]
   simp (disch:=omega) [code107L0,h106,hp,hv]
end
def allU (m:Nat) (l:List UnitU):List UnitU:=builtU m++l
def worldU (m:Nat) (l:List UnitU):Bool:=decide (l.length≤32) && (namesU [] (allU m l) && l.all (unitU (allU m l)))
theorem worldU_fin {p n w0 w2:Nat} {l:List UnitU} (hl:l.length≤40) (hlow:∀ u ∈ l,u.low O.length) (hp:O.length≤p) (hp1:p≠O.length+1) (h1:H[p]? = some (.cells 4 ((allU (O.length+1) l).flatMap UnitU.cells))) (h2:H[O.length+1]? = some natO) (hw:O.length≤w2) :
  finish ⟨O,b,w0⟩ (.tuple [.slice (some (p,0)) n none,.bool true]) ⟨H,b,w2⟩=(.tuple [.slice (some (O.length,0)) n none,.bool true],⟨O++[.cells 4 ((allU (O.length+1) l).flatMap UnitU.cells),natO],b,w0⟩):=by
 have hi:AVal.idsL ((allU (O.length+1) l).flatMap UnitU.cells)=(O.length+1) :: AVal.idsL (l.flatMap UnitU.cells):=by
  unfold allU; rw [gr,idsL_app,ids_built]; rfl
 have hlen:=ids_units_len (L:=l)
 have hids:=ids_units hlow
 have hr:reach ⟨H,b,w2⟩ O.length 1000 [p] []=[p,O.length+1]:=by
  rw [gi,if_neg (by omega),if_neg (by simp)]
  simp only [Heap.get,h1,ce,de,idsC,hi,ci,bz]
  rw [gi,if_neg (by omega),if_neg (by simp; omega)]
  simp only [Heap.get,h2,ce,de,ids_nat,ci,bz,b0]
  exact reach_low _ _ (by omega) hids
 have hv:AVal.under O.length (.tuple [.slice (some (p,0)) n none,.bool true])=false:=by simp [AVal.under,AVal.unders]; omega
 have hw2:(⟨O,b,w0⟩:Heap).size≤(⟨H,b,w2⟩:Heap).wmin:=hw
 refine (finish_keep (k:=[p,O.length+1]) hw2 hv (by simpa [AVal.ids,AVal.idsL] using hr) fun i hi'=>?_).trans ?_
 ·simp only [AVal.ids,AVal.idsL,co,iz,Heap.get,h1,h2,ce,de,idsC,hi,ids_nat,ci,b0,bz,bt,ep,or_false] at hi' ⊢
  show i < O.length∨_
  rcases hi' with h | h | h
  ·exact .inr (.inl h)
  ·exact .inr (.inr h)
  ·exact .inl (hids i h)
 ·have key:∀ f:Nat→Nat,f p=O.length→f (O.length+1)=O.length+1→(∀ i,i < O.length→f i=i) →
    ((AVal.tuple [.slice (some (p,0)) n none,.bool true]).ren f,(⟨O++[p,O.length+1].map fun i=>(((⟨H,b,w2⟩:Heap).get i).map (AObj.ren f)).getD .dead,b,w0⟩:Heap)) =
     (.tuple [.slice (some (O.length,0)) n none,.bool true],⟨O++[.cells 4 ((allU (O.length+1) l).flatMap UnitU.cells),natO],b,w0⟩):=by
   intro f e1 e2 e3
   have hren:AVal.renL f ((allU (O.length+1) l).flatMap UnitU.cells)=(allU (O.length+1) l).flatMap UnitU.cells:=by
    unfold allU; rw [gr,renL_app,ren_built,e2,ren_units e3 hlow]
   simp only [AVal.ren,AVal.renL,Heap.get,h1,h2,ce,de,bu,eu,renC,e1,hren,ren_nat]
  refine key _ ?_ ?_ fun i hi=>if_pos hi
  ·show (if p < O.length then p else _)=_
   rw [if_neg (by omega)]; simp [idxIn]
  ·have:¬ p=O.length+1:=hp1
   simp [idxIn,this]
end Go.Abs.AbsHier

namespace Go.Abs.AbsHier
open Go.Abs.AbsDesc
variable {os O H:List AObj} {b w:Nat}
theorem plain_ok {n s:Str} (hn:n.length≤big) (hs:s.length≤big):(plainU n s).ok H :=
 ⟨hn,hs,⟨fun h=>absurd rfl h⟩,dm _,by simp [under,plainU],by simp [plainU],⟨fun h=>absurd rfl h⟩,dm _,by simp [under,plainU],by simp [plainU]⟩
theorem natM_ok {x:Str × Str} (h1:x.1.length≤big) (h2:x.2.length≤big):(natM x).ok H :=
 ⟨h1,h2,⟨fun h=>absurd rfl h⟩,dm _,by simp [under,natM],by simp [natM],⟨fun h=>absurd rfl h⟩,dm _,by simp [under,natM],by simp [natM],⟨fun h=>absurd rfl h⟩,dm _,by simp [under,natM],by simp [natM]⟩
theorem sysU_ok {m:Nat} (h:H[m]? = some natO):(sysU m).ok H :=
 ⟨by show sysT.length≤big; decide,by show objectT.length≤big; decide,⟨fun h=>absurd rfl h⟩,dm _,by simp [under,sysU],by simp [sysU],Row.mk0 (fun _=>rfl) h,by show (natL.map natM).length≤big; decide,by
  have:=ai h
  intro i o e
  simp only [sysU,bi,dx] at e
  omega,fun x hx=>by
  simp only [sysU,d7] at hx
  obtain ⟨y,hy,rfl⟩:=hx
  have:∀ y ∈ natL,y.1.length≤big∧y.2.length≤big:=by decide
  exact natM_ok (this y hy).1 (this y hy).2⟩
theorem builtU_ok {m:Nat} (h:H[m]? = some natO):∀ u ∈ builtU m,u.ok H:=by
 intro u hu
 rcases bo.1 hu with hu | hu
 ·simp only [built3,bt,ep,or_false] at hu
  rcases hu with rfl | rfl | rfl
  ·exact plain_ok (by decide) (by decide)
  ·exact plain_ok (by decide) (by decide)
  ·exact sysU_ok h
 ·simp only [d7] at hu
  obtain ⟨n,hn,rfl⟩:=hu
  have:∀ n ∈ faultsL,n.length≤big:=by decide
  exact plain_ok (this n hn) (by decide)
theorem allU_ok {m:Nat} {l:List UnitU} (h:H[m]? = some natO) (hl:∀ u ∈ l,u.ok H):∀ u ∈ allU m l,u.ok H:=fun u hu=>by
 rcases bo.1 hu with hu | hu
 ·exact builtU_ok h u hu
 ·exact hl u hu
def worldO (O:List AObj) (l:List UnitU):List AObj:=O++[.cells 4 ((allU (O.length+1) l).flatMap UnitU.cells),natO]
theorem allU_len (m:Nat) (l:List UnitU):(allU m l).length=9+l.length:=by simp [allU,builtU,built3,faultsL]; omega
theorem worldO_units {l:List UnitU} (hl:l.length≤40) (hok:∀ u ∈ l,u.ok O):Units (worldO O l) (allU (O.length+1) l) (some (O.length,0)) :=
 ⟨Row.mk0 (fun _=>rfl) (by unfold worldO; rw [dp]; rfl),by rw [allU_len]; omega,allU_ok (by unfold worldO; rw [dy]; rfl) fun u hu=>(hok u hu).pre (Pre.app _ _)⟩
section
attribute [-simp] getElem?_pos getElem?_neg List.all_eq_true
attribute [local simp] gz gs nltT nltF iltT iltF ileT nleT df
theorem s107 {l:List UnitU} {a:Option (Nat × Nat)} {c:Option Nat} (hR:Row O 4 UnitU.cells l a) (hl:l.length≤40) (hok:∀ u ∈ l,u.ok O∧u.cap) (hb:b≤O.length) :
  xCall T 107 [.slice a l.length c] ⟨O,b,w⟩=some (if worldU (O.length+1) l then (.tuple [.slice (some (O.length,0)) (allU (O.length+1) l).length none,.bool true],⟨worldO O l,b,w⟩) else (.tuple [.slice none 0 (some 0),.bool false],⟨O,b,w⟩)):=by
 have h108:=fun w=>s108 (O:=O) (b:=b) (w:=w) hb
 have hlen:=allU_len (O.length+1) l
 have hlow:∀ u ∈ l,u.low O.length:=fun u hu=>(hok u hu).1.low
 unfold worldU
 by_cases c0:l=[]
 ·subst c0
  have hW:Units (worldO O []) (allU (O.length+1) []) (some (O.length,0)):=worldO_units (by simp) (by simp)
  have e0:builtU (O.length+1)=allU (O.length+1) []:=(ci _).symm
  have h1:=fun x0 w k=>l107b (b:=b) (x0:=x0) hW.r hW.len (allU (O.length+1) []).length 0 w (by simp) k
  have h2:=fun w k=>l107c (b:=b) (cw:=none) (a:=a) (c:=c) (L:=[]) hW ⟨fun h=>absurd rfl h⟩ (by simp) (by simp) (by unfold worldO; simp; omega) 0 0 w (by simp) k
  have hf:=fun w0=>worldU_fin (O:=O) (b:=b) (p:=O.length) (n:=9) (w0:=w0) (l:=[]) (H:=worldO O []) (by simp) (by simp) (by simp) (by simp) (by unfold worldO; rw [dp]; rfl) (by unfold worldO; rw [dy]; rfl) (aj _)
  rw [e0] at h108
  rw [hlen] at h1 h2 ⊢
  simp only [bl,br,gt,List.take_zero,dr,List.all_nil,if_true,Bool.and_true,dm,decide_true,cz] at h1 h2 ⊢
  have hWl:(allU (O.length+1) []).length=9:=hlen
  have hz:∀ w,rowOf 4 ⟨O++[.cells 4 ((allU (O.length+1) []).flatMap UnitU.cells),natO],b,w⟩ (.slice (some (O.length,0)) 9 none)=some ((allU (O.length+1) []).flatMap UnitU.cells):=fun w=>rowOfC (by rw [dp]; rfl) rfl
  unfold worldO at *
  generalize allU (O.length+1) []=W at *
  rcases ap (namesU [] W) with c4 | c4
  ·rw [c4] at h1
   simp only [c4,if_true] at h1 ⊢
   simp (disch:=omega) [av t107,code107,h108,-finish,-rowOf,rowOf0,hz,h1,h2,hf]
  ·rw [c4] at h1
   simp only [c4,am,if_false] at h1 ⊢
   simp (disch:=omega) [av t107,code107,h108,-rowOf,rowOf0,hz,h1]
 ·have c1:l.length≠0:=fun e=>c0 (bq e)
  have hH:Pre O (O++[.dead,natO,.cells 4 ((allU (O.length+1) l).flatMap UnitU.cells)]):=Pre.app _ _
  have hW:Units (O++[.dead,natO,.cells 4 ((allU (O.length+1) l).flatMap UnitU.cells)]) (allU (O.length+1) l) (some (O.length+2,0)) :=
   ⟨Row.mk0 (fun _=>rfl) (by rw [dy]; rfl),by rw [hlen]; omega,allU_ok (by rw [dy]; rfl) fun u hu=>(hok u hu).1.pre hH⟩
  have hz:∀ w,rowOf 4 ⟨O++[.cells 4 ((builtU (O.length+1)).flatMap UnitU.cells),natO],b,w⟩ (.slice (some (O.length,0)) 9 none)=some ((builtU (O.length+1)).flatMap UnitU.cells):=fun w=>rowOfC (by rw [dp]; rfl) rfl
  have hz2:=fun w=>rowOf_row (h:=⟨O++[.cells 4 ((builtU (O.length+1)).flatMap UnitU.cells),natO],b,w⟩) (c:=c) ((Pre.app O _).row hR)
  have hl40:(9+l.length)*80≤140737488355328:=by omega
  have hcat:(builtU (O.length+1)).flatMap UnitU.cells++l.flatMap UnitU.cells=(allU (O.length+1) l).flatMap UnitU.cells:=by unfold allU; rw [gr]
  have h1:=fun x0 w k=>l107b (b:=b) (x0:=x0) hW.r hW.len (allU (O.length+1) l).length 0 w (by simp) k
  have h2:=fun w k=>l107c (b:=b) (cw:=none) (c:=c) hW (hH.row hR) (by omega) (fun u hu=>⟨(hok u hu).1.pre hH,(hok u hu).2⟩) (by simp; omega) l.length 0 w (by simp) k
  have hf:=fun w0 w2 hw=>worldU_fin (O:=O) (b:=b) (p:=O.length+2) (n:=9+l.length) (w0:=w0) (w2:=w2) (l:=l) (H:=O++[.dead,natO,.cells 4 ((allU (O.length+1) l).flatMap UnitU.cells)]) hl hlow (by omega) (by omega) (by rw [dy]; rfl) (by rw [dy]; rfl) hw
  have hf:=fun w0=>hf w0 O.length (aj _)
  rw [hlen] at h1 h2 ⊢
  simp only [Int.natCast_add,bl,List.take_zero,dr] at h1 h2 ⊢
  by_cases c2:l.length≤32
  ·have n2:¬ ((32:Int) < l.length):=by omega
   simp only [decide_eq_true c2,cz]
   rcases ap (namesU [] (allU (O.length+1) l)) with c4 | c4
   ·rw [c4] at h1
    simp only [c4,if_true,cz] at h1 ⊢
    rcases ap (l.all (unitU (allU (O.length+1) l))) with c5 | c5
    ·rw [c5] at h2
     simp only [c5,if_true] at h2 ⊢
     unfold worldO
     simp (disch:=omega) [av t107,code107,h108,-finish,-rowOf,hz,hz2,hl40,hcat,dy,dp,gk,gb,c1,n2,h1,h2,hf]
    ·rw [c5] at h2
     simp only [c5,am,if_false] at h2 ⊢
     simp (disch:=omega) [av t107,code107,h108,-rowOf,hz,hz2,hl40,hcat,dy,dp,gk,gb,c1,n2,h1,h2]
   ·rw [c4] at h1
    simp only [c4,am,if_false,dk] at h1 ⊢
    simp (disch:=omega) [av t107,code107,h108,-rowOf,hz,hz2,hl40,hcat,dy,dp,gk,gb,c1,n2,h1]
  ·have n2:(32:Int) < l.length:=by omega
   simp only [decide_eq_false c2,dk,am,if_false]
   simp (disch:=omega) [av t107,code107,h108,-rowOf,hz,hz2,hl40,hcat,dy,dp,gk,gb,c1,n2]
end
end Go.Abs.AbsHier

namespace Go.Abs.AbsTyp
open Go.Abs.AbsDesc Go.Abs.AbsHier
open Go.Abs.AbsOrd hiding T sub
variable {os O:List AObj} {b w:Nat} {N:Nat} {S:List (Str × Str)} {F M:List (Key × Mem)} {V:List (Key × Bool)}
theorem subT:∀ g f,AbsHier.T g=some f→AbsTyp.T g=some f:=fun g f h=>AbsTyp.sub g f (AbsOrd.subH g f h)
def plainS (t:Str):Bool:=decide (t=[84]) || decide (t=[73]) || decide (t=[74]) || decide (t=[45])
def placeS (S:List (Str × Str)) (s t:Str):Bool:=if t=[84] then true else if plainS s || plainS t then decide (s=t) else goesS S s t
def rowS (S:List (Str × Str)):List Str→List Str→Bool
 | [],[]=>true
 | x :: xs,y :: ys=>placeS S x y && rowS S xs ys
 | _,_=>false
section
attribute [-simp] getElem?_pos getElem?_neg List.all_eq_true
attribute [local simp] gz gs nltT nltF iltT iltF ileT nleT df
theorem s267 {h:Heap} {t:Str}:xCall T 267 [.str t] h=some (.bool (plainS t),h):=by
 obtain ⟨os,b,w⟩:=h
 unfold plainS
 by_cases c1:t=[84]
 ·simp (disch:=omega) [av t267,code267,c1]
 ·by_cases c2:t=[73]
  ·simp (disch:=omega) [av t267,code267,c1,c2]
  ·by_cases c3:t=[74]
   ·simp (disch:=omega) [av t267,code267,c1,c2,c3]
   ·simp (disch:=omega) [av t267,code267,c1,c2,c3]
theorem s247 (h:AbsHier.World O N S F M V) (hb:b≤O.length) (hS:S.length≤9223372036854775807) (s t:Str) (w:Nat) (hs:s.length≤9223372036854775807) (ht:t.length≤9223372036854775807) :
  xCall T 247 [.ptr (some (N,0)),.str s,.str t] ⟨O,b,w⟩=some (.bool (placeS S s t),⟨O,b,w⟩):=by
 have h47:=fun w=>eq subT (s47 (b:=b) h hb hS s t w hs ht)
 have h1:=fun h=>s267 (h:=h) (t:=s)
 have h2:=fun h=>s267 (h:=h) (t:=t)
 unfold placeS
 by_cases c1:t=[84]
 ·simp (disch:=omega) [av t247,code247,c1]
 ·generalize plainS s=p at *
  generalize plainS t=q at *
  cases p with
  | true=>simp (disch:=omega) [av t247,code247,c1,h1,h2]
  | false=>cases q <;> simp (disch:=omega) [av t247,code247,c1,h1,h2,h47]
end
structure StrRow (O:List AObj) (L:List Str) (a:Option (Nat × Nat)):Prop where
 r:Row O 1 strC L a
 n:L.length≤reachB
 s:∀ t ∈ L,t.length≤9223372036854775807
theorem str_at {L:List Str} {a:Option (Nat × Nat)} {i:Nat} {x:Str} (h:Row O 1 strC L a) (hx:L[i]? = some x):∃ p o cs,a=some (p,o)∧O[p]? = some (.cells 1 cs)∧cs[o+i]? = some (.str x):=by
 obtain ⟨p,o,cs,h1,h2,h3,h4,h5⟩:=ig h hx
 have h6:=Go.Abs.AbsMake.take_get (k:=0) h5 (by decide)
 refine ⟨p,o,cs,h1,h2,?_⟩
 rw [Nat.mul_one,gt] at h6
 rw [h6]; rfl
section
section
attribute [-simp] getElem?_pos getElem?_neg List.all_eq_true
attribute [local simp] gz gs nltT nltF iltT iltF ileT nleT df
theorem l270 {Q:Nat} {L R:List Str} {a c:Option (Nat × Nat)} {ac cc:Option Nat} (h:AbsHier.World O N S F M V) (hb:b≤O.length) (hS:S.length≤9223372036854775807) (hQ:O[Q]? = some (.cells 1 [.ptr (some (N,0))])) (hL:StrRow O L a) (hR:StrRow O R c) (hlr:L.length=R.length):∀ (j i:Nat) (w:Nat),i+j=L.length→∀ (k:AExit→St→Option (AVal × Heap)),
  xK T (.loop code270L0) ⟨[(1,.val (.slice c R.length cc)),(2,.val (.func 271 [] [.ptr (some (Q,0))])),(15,.val (.slice a L.length ac)),(16,.val (.int .i64 L.length)),(17,.val (.int .i64 i))],⟨O,b,w⟩⟩ (k:=⟨k⟩) =
  if rowS S (L.drop i) (R.drop i) then k (.exit 0) ⟨[],⟨O,b,w⟩⟩ else k .ret ⟨[(6,.val (.bool false))],⟨O,b,w⟩⟩
 | 0,i,w,hi,k=>by
  rw [cf,bg (by omega),bg (by omega)]
  simp (disch:=omega) [code270L0,rowS]
 | j+1,i,w,hi,k=>by
  have hn:L.length≤140737488351232:=hL.n
  obtain ⟨x,hx⟩:∃ x,L[i]? = some x:=⟨_,ah (by omega)⟩
  obtain ⟨y,hy⟩:∃ y,R[i]? = some y:=⟨_,ah (by omega)⟩
  obtain ⟨p,o,cs,ha,hpp,ht⟩:=str_at hL.r hx
  obtain ⟨p',o',cs',ha',hpp',ht'⟩:=str_at hR.r hy
  have hdx:L.drop i=x :: L.drop (i+1):=gl hx
  have hdy:R.drop i=y :: R.drop (i+1):=gl hy
  have ih:=l270 (ac:=ac) (cc:=cc) h hb hS hQ hL hR hlr j (i+1) w (by omega) k
  have e2:((i+1:Nat):Int)=(i:Int)+1:=by omega
  rw [e2] at ih
  have h247:=fun w=>s247 (b:=b) h hb hS x y w (hL.s x (az hx)) (hR.s y (az hy))
  subst ha ha'
  rw [cf,hdx,hdy]
  generalize ACode.loop code270L0=LL at ih ⊢
  cases e:placeS S x y with
  | true =>
   simp only [rowS,e,cz]
   rw [e] at h247
   simp (disch:=omega) [code270L0,hpp,hpp',ht,ht',av t271,code271,hQ,h247,ih]
  | false =>
   simp only [rowS,e,dk]
   rw [e] at h247
   simp (disch:=omega) [code270L0,hpp,hpp',ht,ht',av t271,code271,hQ,h247]
end
theorem row_len {S:List (Str × Str)}:∀ {L R:List Str},rowS S L R=true→L.length=R.length
 | [],[],_=>rfl
 | x :: xs,y :: ys,h=>by
  simp only [rowS,au] at h
  rw [a8,a8,row_len h.2]
 | [],_ :: _,h=>by simp [rowS] at h
 | _ :: _,[],h=>by simp [rowS] at h
section
attribute [-simp] getElem?_pos getElem?_neg List.all_eq_true
attribute [local simp] gz gs nltT nltF iltT iltF ileT nleT df
theorem s270 {Q:Nat} {L R:List Str} {a c:Option (Nat × Nat)} {ac cc:Option Nat} (h:AbsHier.World O N S F M V) (hb:b≤O.length) (hS:S.length≤9223372036854775807) (hQ:O[Q]? = some (.cells 1 [.ptr (some (N,0))])) (hL:StrRow O L a) (hR:StrRow O R c) :
  xCall T 270 [.slice a L.length ac,.slice c R.length cc,.func 271 [] [.ptr (some (Q,0))]] ⟨O,b,w⟩=some (.bool (rowS S L R),⟨O,b,w⟩):=by
 have hn:L.length≤140737488351232:=hL.n
 by_cases e:L.length=R.length
 ·have h1:=fun w=>l270 (b:=b) (ac:=ac) (cc:=cc) h hb hS hQ hL hR e L.length 0 w (by omega)
  simp only [bl,dr] at h1
  have en:((L.length:Int)=(R.length:Int))=True:=eq_true (by omega)
  cases er:rowS S L R with
  | true=>rw [er] at h1; simp (disch:=omega) [av t270,code270,en,h1]
  | false=>rw [er] at h1; simp (disch:=omega) [av t270,code270,en,h1]
 ·have en:((L.length:Int)=(R.length:Int))=False:=eq_false (by omega)
  have er:rowS S L R=false:=by
   rcases ap (rowS S L R) with h | h
   ·exact absurd (row_len h) e
   ·exact h
  rw [er]
  simp (disch:=omega) [av t270,code270,en]
end
end
structure FrU where
 locals:List Str
 la:Option (Nat × Nat)
 lc:Option Nat
 stack:List Str
 sa:Option (Nat × Nat)
 sc:Option Nat
def FrU.cells (f:FrU):List AVal:=[.slice f.la f.locals.length f.lc,.slice f.sa f.stack.length f.sc]
structure FrU.ok (O:List AObj) (f:FrU):Prop where
 l:StrRow O f.locals f.la
 s:StrRow O f.stack f.sa
def goesF (S:List (Str × Str)) (f g:FrU):Bool:=rowS S f.locals g.locals && rowS S f.stack g.stack
theorem StrRow.app {L:List Str} {a:Option (Nat × Nat)} (h:StrRow O L a) (X:List AObj):StrRow (O++X) L a:=⟨(Pre.app O X).row h.r,h.n,h.s⟩
section
attribute [-simp] getElem?_pos getElem?_neg List.all_eq_true
attribute [local simp] gz gs nltT nltF iltT iltF ileT nleT df
theorem s245 (h:AbsHier.World O N S F M V) (hb:b≤O.length) (hS:S.length≤9223372036854775807) {f g:FrU} (hf:f.ok O) (hg:g.ok O) :
  xCall T 245 [.ptr (some (N,0)),.agg f.cells,.agg g.cells] ⟨O,b,w⟩=some (.bool (goesF S f g),⟨O,b,w⟩):=by
 have hfc:f.cells=[.slice f.la f.locals.length f.lc,.slice f.sa f.stack.length f.sc]:=rfl
 have hgc:g.cells=[.slice g.la g.locals.length g.lc,.slice g.sa g.stack.length g.sc]:=rfl
 have h1:=fun w=>s270 (b:=b) (w:=w) (ac:=f.lc) (cc:=g.lc) (h.app [.cells 1 [.ptr (some (N,0))]]) (by simp; omega) hS (Q:=O.length) (by rw [dp]; rfl) (hf.l.app _) (hg.l.app _)
 have h2:=fun w=>s270 (b:=b) (w:=w) (ac:=f.sc) (cc:=g.sc) (h.app [.cells 1 [.ptr (some (N,0))]]) (by simp; omega) hS (Q:=O.length) (by rw [dp]; rfl) (hf.s.app _) (hg.s.app _)
 unfold goesF
 generalize rowS S f.locals g.locals=r1 at *
 generalize rowS S f.stack g.stack=r2 at *
 cases r1 with
 | false=>simp (disch:=omega) [av t245,code245,hfc,hgc,h1]
 | true=>simp (disch:=omega) [av t245,code245,hfc,hgc,h1,h2]
end
end Go.Abs.AbsTyp

namespace Go.Abs.AbsHier
open Go.Abs.AbsDesc
variable {os O H:List AObj} {b w:Nat}
structure Left (j:Nat) (r:Int):Prop where
 hi:r≤600
 lo:-1152921504606846976+j*562949953404928≤r
structure Went (j:Nat) (r r':Int):Prop where
 hi:r'≤600
 lo:r - j*562949953404928≤r'
theorem ids_strC:∀ L:List Str,AVal.idsL (L.flatMap strC)=[]
 | []=>rfl
 | t :: L=>by
  rw [co,idsL_app,ids_strC L]; rfl
theorem okId_low {n0 m i:Nat} {ds:List Did} (h:i < n0):okId n0 m ds i=true:=by
 unfold okId; simp [h]
theorem je {n0 m n:Nat} {ds:List Did} {a:Option (Nat × Nat)} {c:Option Nat} (h:under n0 a):(AVal.slice a n c).ids.all (okId n0 m ds)=true:=by
 rw [al]; exact fun i hi=>okId_low (ids_slice h i hi)
end Go.Abs.AbsHier

namespace Go.Abs.AbsTyp
open Go.Abs.AbsDesc Go.Abs.AbsHier
open Go.Abs.AbsOrd hiding T sub
variable {os O:List AObj} {b w:Nat} {N:Nat} {S:List (Str × Str)} {F M:List (Key × Mem)} {V:List (Key × Bool)}
structure Both (O X:List AObj) (L R:List Str) (a:Option (Nat × Nat)) (w w':Nat):Prop where
 row:Row (O++X) 1 strC (L++R) a
 w:∀ n,n≤O.length→n≤w→n≤w'
structure FrU.low (n:Nat) (f:FrU):Prop where
 l:under n f.la
 s:under n f.sa
section
variable {f:FrU}
section
attribute [-simp] getElem?_pos getElem?_neg List.all_eq_true sget
attribute [local simp] gz gs nltT nltF iltT iltF ileT nleT df ir iu iw
set_option maxHeartbeats 2000000 in
theorem reg242 (hf:f.ok O) (hu:f.low O.length) (hb:b≤O.length) (hn1:f.locals.length≤100) (hn2:f.stack.length≤100) (w:Nat):∃ X a c w',Both O X f.locals f.stack a w w'∧∀ (k:AExit→St→Option (AVal × Heap)),
  xK T code242R0 ⟨[(1,.var f.cells)],⟨O,b,w⟩⟩ (k:=⟨k⟩)=k .normal ⟨[(21,.val (.slice a (f.locals++f.stack).length c)),(22,.val (.int .i64 ((f.locals++f.stack).length:Int))),(23,.val (.int .i64 0))],⟨O++X,b,w'⟩⟩:=by
 have hfc:f.cells=[.slice f.la f.locals.length f.lc,.slice f.sa f.stack.length f.sc]:=rfl
 have hl1:=fun b w=>rowOf_row (f:=strC) (e:=1) (h:=⟨O++[.cells 1 []],b,w⟩) (c:=f.lc) ((Pre.app O _).row hf.l.r)
 have hs1:=fun b w=>rowOf_row (f:=strC) (e:=1) (h:=⟨O++[.cells 1 []],b,w⟩) (c:=f.sc) ((Pre.app O _).row hf.s.r)
 have hl2:=fun b w=>rowOf_row (f:=strC) (e:=1) (h:=⟨O++[.cells 1 [],.cells 1 (f.locals.flatMap strC)],b,w⟩) (c:=f.sc) ((Pre.app O _).row hf.s.r)
 have flatL:(f.locals.flatMap strC).length=f.locals.length*1:=flat_len strC 1 (fun _=>rfl) _
 have hla:(f.locals++f.stack).length=f.locals.length+f.stack.length:=aw
 by_cases c1:f.locals.length=0
 ·have e1:f.locals=[]:=bq c1
  by_cases c2:f.stack.length=0
  ·have e2:f.stack=[]:=bq c2
   refine ⟨[.cells 1 []],some (O.length,0),some 0,w,⟨by rw [e1,e2]; exact ⟨fun h=>absurd rfl h⟩,fun _ _ h=>h⟩,fun k=>?_⟩
   rw [hla]
   simp (disch:=omega) [code242R0,hfc,c1,c2,bp,cg,dy,dp,gk,gb,-rowOf,rowOf0,je hu.l,je hu.s,ids_strC]
  ·refine ⟨[.cells 1 [],.cells 1 (f.stack.flatMap strC)],some (O.length+1,0),none,w,⟨by rw [e1]; exact Row.mk0 (fun _=>rfl) (by rw [dy]; rfl),fun _ _ h=>h⟩,fun k=>?_⟩
   rw [hla]
   simp (disch:=omega) [-rowOf,rowOf0,code242R0,hfc,c1,c2,hs1,bp,cg,dy,dp,gk,gb,je hu.l,je hu.s,ids_strC]
 ·by_cases c2:f.stack.length=0
  ·have e2:f.stack=[]:=bq c2
   have hz:=fun w=>rowOfC (e:=1) (n:=f.locals.length) (h:=⟨O++[.cells 1 [],.cells 1 (f.locals.flatMap strC)],b,w⟩) (i:=O.length+1) (c:=none) (by rw [dy]; rfl) flatL
   refine ⟨[.cells 1 [],.cells 1 (f.locals.flatMap strC)],some (O.length+1,0),none,w,⟨by rw [e2,ci]; exact Row.mk0 (fun _=>rfl) (by rw [dy]; rfl),fun _ _ h=>h⟩,fun k=>?_⟩
   rw [hla]
   simp (disch:=omega) [-rowOf,rowOf0,hz,code242R0,hfc,c1,c2,hl1,bp,cg,dy,dp,gk,gb,je hu.l,je hu.s,ids_strC]
  ·have hz:=fun w=>rowOfC (e:=1) (n:=f.locals.length) (h:=⟨O++[.cells 1 [],.cells 1 (f.locals.flatMap strC)],b,w⟩) (i:=O.length+1) (c:=none) (by rw [dy]; rfl) flatL
   refine ⟨[.cells 1 [],.dead,.cells 1 ((f.locals++f.stack).flatMap strC)],some (O.length+2,0),none,min w (O.length+1),⟨Row.mk0 (fun _=>rfl) (by rw [dy]; rfl),fun n _ h=>by omega⟩,fun k=>?_⟩
   rw [hla,gr]
   simp (disch:=omega) [-rowOf,rowOf0,hz,hl2,code242R0,hfc,c1,c2,hl1,bp,cg,dy,dp,gk,gb,je hu.l,je hu.s,ids_strC]
end
section
attribute [-simp] getElem?_pos getElem?_neg List.all_eq_true
attribute [local simp] gz gs nltT nltF iltT iltF ileT nleT df
theorem l242 {L:List Str} {a:Option (Nat × Nat)} {c:Option Nat} (hR:Row O 1 strC L a) (hn:L.length≤1000000) (hs:∀ t ∈ L,t.length≤9223372036854775807):∀ (j i:Nat) (w:Nat),i+j=L.length→∀ (k:AExit→St→Option (AVal × Heap)),
  xK T (.loop code242L0) ⟨[(21,.val (.slice a L.length c)),(22,.val (.int .i64 L.length)),(23,.val (.int .i64 i))],⟨O,b,w⟩⟩ (k:=⟨k⟩) =
  if (L.drop i).all (fun t=>decide (t.length≤150)) then k (.exit 0) ⟨[],⟨O,b,w⟩⟩ else k .ret ⟨[(2,.val (.bool false))],⟨O,b,w⟩⟩
 | 0,i,w,hi,k=>by
  rw [cf,bg (by omega)]
  simp (disch:=omega) [code242L0]
 | j+1,i,w,hi,k=>by
  obtain ⟨x,hx⟩:∃ x,L[i]? = some x:=⟨_,ah (by omega)⟩
  obtain ⟨p,o,cs,rfl,hpp,ht⟩:=str_at hR hx
  have hdx:L.drop i=x :: L.drop (i+1):=gl hx
  have ih:=l242 (c:=c) hR hn hs j (i+1) w (by omega) k
  have e2:((i+1:Nat):Int)=(i:Int)+1:=by omega
  rw [e2] at ih
  have hxl:=hs x (az hx)
  rw [cf,hdx,dl]
  generalize ACode.loop code242L0=LL at ih ⊢
  by_cases e:x.length≤150
  ·have e':¬ ((150:Int) < x.length):=by omega
   rw [decide_eq_true e,cz]
   simp (disch:=omega) [code242L0,hpp,ht,e',ih]
  ·have e':((150:Int) < x.length):=by omega
   rw [decide_eq_false e,dk]
   simp (disch:=omega) [code242L0,hpp,ht,e']
end
def fewF (f:FrU):Bool:=decide (f.locals.length≤100) && decide (f.stack.length≤100) && (f.locals++f.stack).all fun t=>decide (t.length≤150)
section
attribute [-simp] getElem?_pos getElem?_neg List.all_eq_true
attribute [local simp] gz gs nltT nltF iltT iltF ileT nleT df
theorem s242 (hf:f.ok O) (hu:f.low O.length) (hb:b≤O.length) (w:Nat):xCall T 242 [.agg f.cells] ⟨O,b,w⟩=some (.bool (fewF f),⟨O,b,w⟩):=by
 have hfc:f.cells=[.slice f.la f.locals.length f.lc,.slice f.sa f.stack.length f.sc]:=rfl
 have hn1:f.locals.length≤140737488351232:=hf.l.n
 have hn2:f.stack.length≤140737488351232:=hf.s.n
 unfold fewF
 by_cases c1:f.locals.length≤100
 ·have c1':¬ ((100:Int) < f.locals.length):=by omega
  by_cases c2:f.stack.length≤100
  ·have c2':¬ ((100:Int) < f.stack.length):=by omega
   obtain ⟨X,a,c,w',hB,hreg⟩:=reg242 hf hu hb c1 c2 O.length
   have hlp:=l242 (b:=b) (c:=c) (O:=O++X) hB.row (by rw [aw]; omega) (fun t ht=>by
    rcases bo.1 ht with ht | ht
    ·exact hf.l.s t ht
    ·exact hf.s.s t ht) (f.locals++f.stack).length 0 w' (by omega)
   simp only [bl,dr,aw,Int.natCast_add] at hlp
   have hw:=hB.w _ (aj _) (aj _)
   rw [decide_eq_true c1,decide_eq_true c2,cz,cz]
   rw [hfc] at hreg
   cases e:(f.locals++f.stack).all (fun t=>decide (t.length≤150)) with
   | true=>rw [e] at hlp; simp (disch:=omega) [av t242,code242,hfc,c1',c2',hreg,hlp]
   | false=>rw [e] at hlp; simp (disch:=omega) [av t242,code242,hfc,c1',c2',hreg,hlp]
  ·have c2':((100:Int) < f.stack.length):=by omega
   rw [decide_eq_true c1,decide_eq_false c2,cz,dk]
   simp (disch:=omega) [av t242,code242,hfc,c1',c2']
 ·have c1':((100:Int) < f.locals.length):=by omega
  rw [decide_eq_false c1,dk,dk]
  simp (disch:=omega) [av t242,code242,hfc,c1']
end
end
end Go.Abs.AbsTyp

namespace Go.Abs.AbsHier
open Go.Abs.AbsDesc
theorem findU_none {W:List UnitU} {n:Str}:findU W n=none ↔ ∀ u ∈ W,u.name≠n:=by
 unfold findU; rw [List.find?_eq_none]; simp
theorem findU_cons (u:UnitU) (W:List UnitU) (n:Str):findU (u :: W) n=if u.name=n then some u else findU W n:=by
 unfold findU; rw [List.find?_cons]
 by_cases h:u.name=n <;> simp [h]
theorem getE_sup:∀ (W:List UnitU) (n:Str),getE (W.map supE) n=(findU W n).map UnitU.super
 | [],n=>rfl
 | u :: W,n=>by
  rw [findU_cons]
  simp only [bu,getE,supE]
  by_cases h:u.name=n
  ·simp [h]
  ·simp only [h,if_false]; exact getE_sup W n
theorem thereS_eq (W:List UnitU) (t:Str):thereS (W.map supE) t=thereU W t:=by
 unfold thereS thereU
 cases classOf (bare t) with
 | none=>rfl
 | some c=>simp [getE_sup]
theorem trapOk_eq (W:List UnitU) (t:TrapU):trapOk (W.map supE) t=trapU W t:=by
 unfold trapOk trapU; simp [getE_sup]
theorem lineS_eq (W:List UnitU):∀ (k:Nat) (c:Str),lineS (W.map supE) k c=(lineU W k c).map UnitU.name
 | 0,c=>rfl
 | k+1,c=>by
  unfold lineU
  simp only [lineS,getE_sup]
  cases h:findU W c with
  | none=>rfl
  | some v =>
   have:=(ki h).2
   simp only [ce,goL,bu,this]
   rw [lineS_eq W k v.super]; rfl
theorem goL_succ (W:List UnitU):∀ (k:Nat) (u:Option UnitU),(goL W (k+1) u).length≤k→goL W (k+1) u=goL W k u
 | 0,none,_=>rfl
 | 0,some v,h=>by simp [goL] at h
 | k+1,none,_=>rfl
 | k+1,some v,h=>by
  simp only [goL,a8] at h ⊢
  rw [goL_succ W k (findU W v.super) (by omega)]
theorem lineU_succ {W:List UnitU} {k:Nat} {c:Str} (h:(lineU W (k+1) c).length≤k):lineU W (k+1) c=lineU W k c:=goL_succ W k _ h
theorem goL_last (W:List UnitU):∀ (k:Nat) (u:Option UnitU) (v:UnitU),(goL W (k+1) u).length=k+1→(goL W k u).getLast? = some v→(findU W v.super).isSome=true
 | 0,u,v,_,h=>by simp [goL] at h
 | k+1,none,v,h,_=>by simp [goL] at h
 | 1,some x,v,h,h2=>by
  simp only [goL,List.getLast?_singleton,bi] at h2
  subst h2
  cases hf:findU W x.super with
  | none=>simp [goL,hf] at h
  | some _=>rfl
 | k+2,some x,v,h,h2=>by
  have h3:(goL W (k+2) (findU W x.super)).length=k+2:=by simp only [goL,a8] at h ⊢; omega
  refine goL_last W (k+1) (findU W x.super) v h3 ?_
  cases hf:findU W x.super with
  | none=>rw [hf] at h3; simp [goL] at h3
  | some y =>
   simp only [goL,hf] at h2 ⊢
   rwa [List.getLast?_cons_cons] at h2
def rightU (W:List UnitU) (m:MethU):Bool:=match methL m.desc with
 | some (A,r)=>isName m.name && (thereU W r && (A.all (thereU W) && m.traps.all (trapU W)))
 | none=>false
theorem rightS_eq (W:List UnitU) (m:MethU):rightS (W.map supE) m=rightU W m:=by
 unfold rightS rightU
 cases methL m.desc with
 | none=>rfl
 | some q =>
  obtain ⟨A,r⟩:=q
  simp only [List.all_append,dl,List.all_nil,Bool.and_true]
  have h1:A.all (thereS (W.map supE))=A.all (thereU W):=by congr 1; funext t; exact thereS_eq W t
  have h2:m.traps.all (trapOk (W.map supE))=m.traps.all (trapU W):=by congr 1; funext t; exact trapOk_eq W t
  rw [h1,h2,thereS_eq]
  cases isName m.name <;> cases thereU W r <;> cases A.all (thereU W) <;> cases m.traps.all (trapU W) <;> rfl
theorem methodU_eq (W:List UnitU) (u:UnitU) (m:MethU):methodU W u m=(rightU W m && (lineU W (W.length+1) u.name).all (evenM m)):=by
 unfold methodU rightU
 cases methL m.desc with
 | none=>rfl
 | some q =>
  obtain ⟨A,r⟩:=q
  simp only [Bool.and_assoc]
def fieldsD:List FieldU→List FieldU→Bool
 | _,[]=>true
 | A,f :: r=>A.all (fun g=>!decide (f.name=g.name)) && fieldsD (A++[f]) r
def methsD:List MethU→List MethU→Bool
 | _,[]=>true
 | A,m :: r=>A.all (fun g=>!(decide (m.name=g.name) && decide (m.desc=g.desc))) && methsD (A++[m]) r
def fieldR (W:List UnitU) (f:FieldU):Bool:=isName f.name && (isTy f.desc && thereU W f.desc)
theorem fieldsU_eq (W:List UnitU):∀ (A l:List FieldU),fieldsU W A l=(l.all (fieldR W) && fieldsD A l)
 | _,[]=>rfl
 | A,f :: r=>by
  simp only [fieldsU,dl,fieldsD,fieldsU_eq W (A++[f]) r,fieldR]
  cases isName f.name <;> cases isTy f.desc <;> cases thereU W f.desc <;> cases A.all (fun g=>!decide (f.name=g.name)) <;> simp
theorem methsU_eq (W:List UnitU) (u:UnitU):∀ (A l:List MethU),methsU W u A l=(l.all (methodU W u) && methsD A l)
 | _,[]=>rfl
 | A,m :: r=>by
  simp only [methsU,dl,methsD,methsU_eq W u (A++[m]) r]
  cases methodU W u m <;> cases A.all (fun g=>!(decide (m.name=g.name) && decide (m.desc=g.desc))) <;> simp
theorem getE_names (n:Str):∀ A:List FieldU,(getE (A.map fun f=>(f.name,true)) n).getD false = !(A.all fun g=>!decide (n=g.name))
 | []=>rfl
 | f :: A=>by
  simp only [bu,getE,dl]
  by_cases h:f.name=n
  ·simp [h]
  ·have h':¬ n=f.name:=fun e=>h e.symm
   simp only [h,h',if_false,decide_false,kk,cz]
   exact getE_names n A
theorem fieldsS_eq (W:List UnitU):∀ (A l:List FieldU),fieldsS (W.map supE) (A.map fun f=>(f.name,true)) l=(l.all (fieldR W) && fieldsD A l)
 | _,[]=>rfl
 | A,f :: r=>by
  have ih:=fieldsS_eq W (A++[f]) r
  rw [gy] at ih
  simp only [bu,eu] at ih
  simp only [fieldsS,fieldOk,dl,fieldsD,fieldR,thereS_eq,getE_names,Bool.not_not,ih]
  cases isName f.name <;> cases isTy f.desc <;> cases thereU W f.desc <;> cases A.all (fun g=>!decide (f.name=g.name)) <;> simp
theorem getE_meths (c n d:Str):∀ A:List MethU,getE (A.map (methE c)) (c,n,d)=(methAt A n d).map fun x=>⟨c,x.st⟩
 | []=>rfl
 | m :: A=>by
  have ih:=getE_meths c n d A
  unfold methAt at ih ⊢
  simp only [bu,getE,methE,List.find?_cons]
  by_cases h1:m.name=n
  ·by_cases h2:m.desc=d
   ·simp [h1,h2]
   ·simp only [dx,h1,h2,and_false,if_false,decide_true,decide_false,Bool.and_false]
    exact ih
  ·simp only [dx,h1,false_and,and_false,if_false,decide_false,dk]
   exact ih
theorem methAt_isSome (n d:Str) (A:List MethU):(methAt A n d).isSome = !(A.all fun g=>!(decide (n=g.name) && decide (d=g.desc))):=by
 induction A with
 | nil=>rfl
 | cons m A ih =>
  unfold methAt at ih ⊢
  rw [List.find?_cons]
  have e1:decide (m.name=n)=decide (n=m.name):=by rw [decide_eq_decide]; exact eq_comm
  have e2:decide (m.desc=d)=decide (d=m.desc):=by rw [decide_eq_decide]; exact eq_comm
  rw [e1,e2,dl]
  cases decide (n=m.name) && decide (d=m.desc) with
  | true=>simp
  | false=>simpa using ih
theorem methsS_eq (W:List UnitU) (c:Str) (M:List (Key × Mem)) (hM:∀ x ∈ M,x.1.1≠c):∀ (A l:List MethU),methsS (W.map supE) c (M++A.map (methE c)) l=(l.all (rightU W) && methsD A l)
 | _,[]=>rfl
 | A,m :: r=>by
  have ih:=methsS_eq W c M hM (A++[m]) r
  rw [gy,← bh] at ih
  simp only [bu,eu] at ih
  have hg:(getE (M++A.map (methE c)) (c,m.name,m.desc)).isSome = !(A.all fun g=>!(decide (m.name=g.name) && decide (m.desc=g.desc))):=by
   rw [kx,getE_none.2 (fun x hx e=>hM x hx (by rw [e])),Option.none_or,getE_meths,Option.isSome_map,methAt_isSome]
  simp only [methsS,methOk,dl,methsD,rightS_eq,hg,Bool.not_not,ih]
  cases rightU W m <;> cases A.all (fun g=>!(decide (m.name=g.name) && decide (m.desc=g.desc))) <;> simp
def membF (u:UnitU):List (Key × Mem):=u.fields.map (fieldE u.name)
def membM (u:UnitU):List (Key × Mem):=u.meths.map (methE u.name)
theorem built_S (m:Nat):(builtU m).map supE=builtS:=rfl
theorem built_M (m:Nat):(builtU m).flatMap membM=builtM:=rfl
theorem built_F (m:Nat):(builtU m).flatMap membF=[]:=rfl
theorem getE_classes {g:UnitU→List (Key × Mem)} (hg:∀ u,∀ x ∈ g u,x.1.1=u.name) (k:Key):∀ {W:List UnitU},(W.map UnitU.name).Nodup→getE (W.flatMap g) k=(findU W k.1).bind fun u=>getE (g u) k
 | [],_=>rfl
 | u :: W,h=>by
  rw [bu,List.nodup_cons] at h
  rw [co,kx,getE_classes hg k h.2,findU_cons]
  by_cases e:u.name=k.1
  ·have hn:findU W k.1=none:=findU_none.2 fun v hv e2=>h.1 (d7.2 ⟨v,hv,by rw [e2,e]⟩)
   rw [if_pos e,hn]
   simp
  ·have hn:getE (g u) k=none:=getE_none.2 fun x hx e2=>e (by rw [← hg u x hx,e2])
   rw [if_neg e,hn]; rfl
theorem memb_M (u:UnitU):∀ x ∈ membM u,x.1.1=u.name:=fun x hx=>by
 obtain ⟨m,_,rfl⟩:=d7.1 hx; rfl
theorem getM {W:List UnitU} (h:(W.map UnitU.name).Nodup) (c n d:Str):getE (W.flatMap membM) (c,n,d)=(findU W c).bind fun u=>(methAt u.meths n d).map fun x=>⟨u.name,x.st⟩:=by
 rw [getE_classes memb_M _ h]
 cases hf:findU W c with
 | none=>rfl
 | some u =>
  simp only [Option.bind_some,membM]
  rw [← (ki hf).2,getE_meths]
theorem goL_found (W:List UnitU):∀ (k:Nat) (u:Option UnitU),(∀ v,u=some v→findU W v.name=some v)→∀ v ∈ goL W k u,findU W v.name=some v
 | 0,_,_,v,hv=>by simp [goL] at hv
 | _+1,none,_,v,hv=>by simp [goL] at hv
 | k+1,some x,h,v,hv=>by
  simp only [goL,bt] at hv
  rcases hv with rfl | hv
  ·exact h _ rfl
  ·exact goL_found W k _ (fun y hy=>by rw [(ki hy).2]; exact hy) v hv
theorem lineU_found {W:List UnitU} {k:Nat} {c:Str}:∀ v ∈ lineU W k c,findU W v.name=some v:=goL_found W k _ fun y hy=>by rw [(ki hy).2]; exact hy
def endsU (W:List UnitU) (c:Str):Bool:=decide (2≤(lineU W (W.length+1) c).length) && (decide ((lineU W (W.length+1) c).length≤W.length) && decide (lastName (lineU W (W.length+1) c)=objectT))
def ownU (W:List UnitU) (u:UnitU):Bool:=endsU W u.name && (u.fields.all (fieldR W) && (fieldsD [] u.fields && (u.meths.all (rightU W) && methsD [] u.meths)))
def nameU (u:UnitU):Bool:=isClass u.name && !decide (u.super=sysT)
def evenU (W:List UnitU) (u:UnitU):Bool:=u.meths.all fun m=>(lineU W (W.length+1) u.name).all (evenM m)
theorem unitU_eq (W:List UnitU) (u:UnitU):unitU W u=(nameU u && (ownU W u && evenU W u)):=by
 have h:u.meths.all (methodU W u)=(u.meths.all (rightU W) && evenU W u):=by
  unfold evenU
  induction u.meths with
  | nil=>rfl
  | cons m r ih =>
   simp only [dl,ih,methodU_eq]
   cases rightU W m <;> cases (lineU W (W.length+1) u.name).all (evenM m) <;> simp
 unfold unitU nameU ownU endsU
 rw [fieldsU_eq,methsU_eq,h]
 simp only [Bool.and_assoc]
 cases isClass u.name <;> cases decide (u.super=sysT) <;> cases decide (2≤(lineU W (W.length+1) u.name).length) <;> cases decide ((lineU W (W.length+1) u.name).length≤W.length) <;> cases decide (lastName (lineU W (W.length+1) u.name)=objectT) <;>
  cases u.fields.all (fieldR W) <;> cases fieldsD [] u.fields <;> cases u.meths.all (rightU W) <;> cases evenU W u <;> simp
theorem namesU_eq:∀ (A l:List UnitU),(A.map UnitU.name).Nodup→(namesU A l=true ↔ ((A++l).map UnitU.name).Nodup)
 | A,[],h=>by simp [namesU,h]
 | A,u :: r,h=>by
  have e:A++u :: r=(A++[u])++r:=by simp
  simp only [namesU,au,al]
  by_cases c:∀ x ∈ A,(!decide (u.name=x.name))=true
  ·have h2:((A++[u]).map UnitU.name).Nodup:=by
    rw [gy,List.nodup_append]
    refine ⟨h,by simp,fun a ha b hb=>?_⟩
    obtain ⟨x,hx,rfl⟩:=d7.1 ha
    simp only [bu,eu,du] at hb
    subst hb
    have:=c x hx
    intro e
    simp [e] at this
   rw [e,← namesU_eq (A++[u]) r h2]
   exact ⟨fun h=>h.2,fun h=>⟨c,h⟩⟩
  ·refine ⟨fun h=>absurd h.1 c,fun hn=>absurd (fun x hx=>?_) c⟩
   rw [gy,List.nodup_append] at hn
   have:=hn.2.2 x.name (d7.2 ⟨x,hx,rfl⟩) u.name (by simp)
   simpa using fun e=>this e.symm
end Go.Abs.AbsHier

namespace Go.Abs.AbsHier
open Go.Abs.AbsDesc
theorem supersS_iff:∀ {l:List UnitU} {S:List (Str × Str)},(supersS S l).isSome=true ↔ ((l.map UnitU.name).Nodup∧∀ u ∈ l,getE S u.name=none∧nameU u=true)
 | [],S=>by simp [supersS]
 | u :: l,S=>by
  simp only [supersS]
  by_cases c:superOk S u=true
  ·rw [if_pos c,supersS_iff]
   unfold superOk at c
   simp only [au,ff,Option.isSome_eq_false_iff,Option.isNone_iff_eq_none] at c
   obtain ⟨⟨c1,c2⟩,c3⟩:=c
   have c4:nameU u=true:=by unfold nameU; rw [c2,c3]; rfl
   rw [bu,List.nodup_cons]
   refine ⟨fun ⟨h1,h2⟩=>⟨⟨fun hm=>?_,h1⟩,fun v hv=>?_⟩,fun ⟨h1,h2⟩=>⟨h1.2,fun v hv=>?_⟩⟩
   ·obtain ⟨v,hv,e⟩:=d7.1 hm
    have:=(h2 v hv).1
    rw [kx,e,c1] at this
    simp [getE] at this
   ·rcases bt.1 hv with rfl | hv
    ·exact ⟨c1,c4⟩
    ·have:=(h2 v hv).1
     rw [kx] at this
     refine ⟨?_,(h2 v hv).2⟩
     cases hq:getE S v.name with
     | none=>rfl
     | some y=>rw [hq] at this; cases this
   ·obtain ⟨d1,d2⟩:=h2 v (bj _ hv)
    refine ⟨?_,d2⟩
    rw [kx,d1,Option.none_or]
    simp only [getE]
    rw [if_neg fun e=>h1.1 (d7.2 ⟨v,hv,e.symm⟩)]
  ·rw [if_neg c]
   refine ⟨fun h=>(by cases h),fun h=>absurd ?_ c⟩
   have h2:=h.2
   obtain ⟨d1,d2⟩:=h2 u (bc ..)
   unfold nameU at d2
   simp only [au] at d2
   unfold superOk
   rw [d1,d2.1,d2.2]; rfl
theorem endsS_eq {W:List UnitU} {o:UnitU} (h0:findU W []=none) (ho:findU W objectT=some o) (hs:o.super=[]) (c:Str):endsS (W.map supE) c=endsU W c:=by
 unfold endsS endsU
 rw [fh,lineS_eq,fh]
 have hlast:∀ L:List UnitU,(L.map UnitU.name).getLastD []=lastName L:=fun L=>by
  unfold lastName
  rw [List.getLastD_eq_getLast?,List.getLast?_map]
 rw [hlast]
 by_cases hl:(lineU W (W.length+1) c).length≤W.length
 ·have hl2:=lineU_succ hl
  rw [hl2] at hl ⊢
  have e:decide (1 < (lineU W W.length c).length)=decide (2≤(lineU W W.length c).length):=rfl
  rw [e,decide_eq_true hl]
  cases decide (lastName (lineU W W.length c)=objectT) <;> cases decide (2≤(lineU W W.length c).length) <;> rfl
 ·rw [decide_eq_false hl,dk,Bool.and_false,Bool.and_eq_false_iff]
  refine .inl (decide_eq_false ?_)
  intro e
  have hlen:(lineU W (W.length+1) c).length=W.length+1:=by have:=goL_len W (W.length+1) (findU W c); unfold lineU at hl ⊢; omega
  unfold lastName at e
  cases hv:(lineU W W.length c).getLast? with
  | none=>rw [hv] at e; exact absurd e (by decide)
  | some v =>
   rw [hv] at e
   have e:v.name=objectT:=e
   have hm:v ∈ lineU W W.length c:=List.mem_of_getLast? hv
   have hf:=lineU_found v hm
   rw [e,ho] at hf
   have:=goL_last W W.length (findU W c) v hlen hv
   rw [← dg hf,hs,h0] at this
   cases this
theorem membersS_eq {W:List UnitU} (hends:∀ c,endsS (W.map supE) c=endsU W c):∀ {l:List UnitU} {F M:List (Key × Mem)},(l.map UnitU.name).Nodup→(∀ x ∈ M,∀ u ∈ l,x.1.1≠u.name) →
  membersS (W.map supE) F M l=if l.all (ownU W) then some (F++l.flatMap membF,M++l.flatMap membM) else none
 | [],F,M,_,_=>by simp [membersS]
 | u :: l,F,M,hn,hM=>by
  rw [bu,List.nodup_cons] at hn
  have hu:unitOk (W.map supE) M u=ownU W u:=by
   have h1:=fieldsS_eq W [] u.fields
   have h2:=methsS_eq W u.name M (fun x hx=>hM x hx u (bc ..)) [] u.meths
   simp only [eu,ci] at h1 h2
   unfold unitOk ownU
   rw [hends,h1,h2]
   simp only [Bool.and_assoc]
  simp only [membersS,hu,dl]
  rcases ap (ownU W u) with c | c
  ·simp only [c,if_true,cz]
   rw [membersS_eq hends hn.2]
   ·simp only [co,bh]; rfl
   ·intro x hx v hv e
    rcases bo.1 hx with hx | hx
    ·exact hM x hx v (bj _ hv) e
    ·exact hn.1 (d7.2 ⟨v,hv,by rw [← e,memb_M u x hx]⟩)
  ·simp [c]
def keysU (l:List MethU):Prop:=l.Pairwise fun a c=>¬ (a.name=c.name∧a.desc=c.desc)
theorem methsD_keys:∀ (A l:List MethU),methsD A l=true→keysU A→keysU (A++l)
 | A,[],_,h=>by simpa using h
 | A,m :: r,hd,h=>by
  simp only [methsD,au,al] at hd
  have e:A++m :: r=(A++[m])++r:=by simp
  rw [e]
  refine methsD_keys (A++[m]) r hd.2 ?_
  unfold keysU
  rw [List.pairwise_append]
  refine ⟨h,by simp,fun a ha c hc hh=>?_⟩
  simp only [du] at hc
  subst hc
  have:=hd.1 a ha
  simp [hh.1,hh.2] at this
theorem even_eq {m:MethU}:∀ {l:List MethU},keysU l→(match (methAt l m.name m.desc).map MethU.st with | some y=>y == m.st | none=>true)=l.all fun x=>!oddM m x
 | [],_=>rfl
 | x :: l,h=>by
  have h:=List.pairwise_cons.1 h
  have ih:=even_eq (m:=m) h.2
  unfold methAt at ih ⊢
  rw [List.find?_cons,dl]
  by_cases h1:x.name=m.name
  ·by_cases h2:x.desc=m.desc
   ·have hr:(l.all fun x=>!oddM m x)=true:=by
     rw [al]
     intro y hy
     have:=h.1 y hy
     unfold oddM
     by_cases g1:y.name=m.name
     ·by_cases g2:y.desc=m.desc
      ·exact absurd ⟨h1.trans g1.symm,h2.trans g2.symm⟩ this
      ·simp [g2]
     ·simp [g1]
    rw [hr]
    unfold oddM
    simp only [h1,h2,decide_true,Bool.and_self,ce,cz,Bool.not_not,Bool.and_true]
    cases x.st <;> cases m.st <;> rfl
   ·unfold oddM
    simp only [h1,h2,decide_true,decide_false,Bool.and_false,dk,kk,cz]
    exact ih
  ·unfold oddM
   simp only [h1,decide_false,dk,kk,cz]
   exact ih
theorem overS_eq {W:List UnitU} (hn:(W.map UnitU.name).Nodup) (hk:∀ v ∈ W,keysU v.meths) {u:UnitU} (hl:(lineU W (W.length+1) u.name).length≤W.length):overS (W.map supE) (W.flatMap membM) u=evenU W u:=by
 unfold overS evenU
 congr 1
 funext m
 unfold overM
 rw [fh,lineS_eq,lineU_succ hl]
 have hf:=lineU_found (W:=W) (k:=W.length) (c:=u.name)
 generalize lineU W W.length u.name=L at hf ⊢
 induction L with
 | nil=>rfl
 | cons v L ih =>
  rw [bu,dl,dl,ih fun x hx=>hf x (bj _ hx)]
  congr 1
  have hv:=hf v (bc ..)
  have:=even_eq (m:=m) (hk v (ki hv).1)
  unfold overOk evenM
  rw [getM hn,hv,Option.bind_some]
  rw [← this]
  cases methAt v.meths m.name m.desc <;> rfl
theorem built_keys (m:Nat):∀ v ∈ builtU m,keysU v.meths:=by
 have:(builtU m).all (fun v=>methsD [] v.meths)=true:=rfl
 intro v hv
 exact methsD_keys [] _ (al.1 this v hv) List.Pairwise.nil
theorem isClass_nil:isClass []=false:=by decide
theorem built_none (m:Nat):findU (builtU m) []=none:=rfl
theorem built_names (m:Nat):((builtU m).map UnitU.name).Nodup:=by
 have:(builtU m).map UnitU.name=[objectT,throwT,sysT]++faultsL:=rfl
 rw [this]; decide
theorem all_unit (W:List UnitU):∀ l:List UnitU,l.all (unitU W)=(l.all nameU && (l.all (ownU W) && l.all (evenU W)))
 | []=>rfl
 | u :: r=>by
  simp only [dl,unitU_eq,all_unit W r]
  cases nameU u <;> cases ownU W u <;> cases evenU W u <;> cases r.all nameU <;> cases r.all (ownU W) <;> cases r.all (evenU W) <;> rfl
theorem worldS_eq (m:Nat) (l:List UnitU):worldS l=if worldU m l then some ((allU m l).map supE,(allU m l).flatMap membF,(allU m l).flatMap membM) else none:=by
 unfold worldS worldU
 by_cases c1:l.length≤32
 ·rw [if_pos c1,decide_eq_true c1,cz]
  have hS:builtS++l.map supE=(allU m l).map supE:=by unfold allU; rw [gy,built_S]
  have hM:builtM++l.flatMap membM=(allU m l).flatMap membM:=by unfold allU; rw [gr,built_M]
  have hF:l.flatMap membF=(allU m l).flatMap membF:=by unfold allU; rw [gr,built_F]; rfl
  have hnames:namesU [] (allU m l)=true ↔ ((allU m l).map UnitU.name).Nodup:=namesU_eq [] _ (by simp)
  have hall:l.all (unitU (allU m l))=(l.all nameU && (l.all (ownU (allU m l)) && l.all (evenU (allU m l)))):=by
   exact all_unit _ l
  have hcat:((allU m l).map UnitU.name).Nodup ↔ ((l.map UnitU.name).Nodup∧∀ u ∈ l,getE builtS u.name=none):=by
   unfold allU
   rw [gy,List.nodup_append,← built_S m]
   refine ⟨fun ⟨_,h2,h3⟩=>⟨h2,fun u hu=>?_⟩,fun ⟨h1,h2⟩=>⟨built_names m,h1,fun a ha b hb e=>?_⟩⟩
   ·rw [getE_sup,Option.map_eq_none_iff,findU_none]
    exact fun v hv e=>h3 v.name (d7.2 ⟨v,hv,rfl⟩) u.name (d7.2 ⟨u,hu,rfl⟩) e
   ·obtain ⟨v,hv,rfl⟩:=d7.1 ha
    obtain ⟨u,hu,rfl⟩:=d7.1 hb
    have:=h2 u hu
    rw [getE_sup,Option.map_eq_none_iff,findU_none] at this
    exact this v hv e
  rw [hall]
  by_cases c2:((allU m l).map UnitU.name).Nodup
  ·rw [hnames.2 c2,cz]
   rcases ap (l.all nameU) with c3 | c3
   ·have hsup:(supersS builtS l).isSome=true:=supersS_iff.2 ⟨(hcat.1 c2).1,fun u hu=>⟨(hcat.1 c2).2 u hu,al.1 c3 u hu⟩⟩
    obtain ⟨S,hS1⟩:=Option.isSome_iff_exists.1 hsup
    have hS2:=(supersS_eq hS1).1
    rw [hS] at hS2
    subst hS2
    rw [hS1,c3,cz]
    have h0:findU (allU m l) []=none:=by
     unfold allU findU
     rw [List.find?_append]
     have:=built_none m
     unfold findU at this
     rw [this,Option.none_or,List.find?_eq_none]
     intro u hu
     have:=al.1 c3 u hu
     unfold nameU at this
     intro e
     have e:u.name=[]:=by simpa using e
     rw [e,isClass_nil] at this
     cases this
    have hends:=endsS_eq (W:=allU m l) (o:=plainU objectT []) h0 rfl rfl
    have hmem:=membersS_eq (F:=[]) (M:=builtM) hends (hcat.1 c2).1 (fun x hx u hu=>by
     have h1:=(hcat.1 c2).2 u hu
     rw [← built_M m] at hx
     obtain ⟨v,hv,hx⟩:=eg.1 hx
     rw [memb_M v x hx]
     rw [← built_S m,getE_sup,Option.map_eq_none_iff,findU_none] at h1
     exact h1 v hv)
    simp only
    rw [hmem,hM,bz,hF]
    rcases ap (l.all (ownU (allU m l))) with c4 | c4
    ·rw [c4,if_pos rfl,cz]
     simp only
     have hkeys:∀ v ∈ allU m l,keysU v.meths:=fun v hv=>by
      rcases bo.1 hv with hv | hv
      ·exact built_keys m v hv
      ·have:=al.1 c4 v hv
       unfold ownU at this
       simp only [au] at this
       exact methsD_keys [] _ this.2.2.2.2 List.Pairwise.nil
     have hov:l.all (overS ((allU m l).map supE) ((allU m l).flatMap membM))=l.all (evenU (allU m l)):=by
      rw [jv,al,al]
      have key:∀ u ∈ l,overS ((allU m l).map supE) ((allU m l).flatMap membM) u=evenU (allU m l) u:=fun u hu=>by
       have:=al.1 c4 u hu
       unfold ownU endsU at this
       simp only [au,decide_eq_true_eq] at this
       exact overS_eq c2 hkeys this.1.2.1
      exact ⟨fun h u hu=>by rw [← key u hu]; exact h u hu,fun h u hu=>by rw [key u hu]; exact h u hu⟩
     rw [hov]
    ·rw [c4]; rfl
   ·have hsup:supersS builtS l=none:=by
     rw [← Option.not_isSome_iff_eq_none,supersS_iff]
     intro h
     have:l.all nameU=true:=al.2 fun u hu=>(h.2 u hu).2
     rw [c3] at this; cases this
    rw [hsup,c3]; rfl
  ·have hsup:supersS builtS l=none:=by
    rw [← Option.not_isSome_iff_eq_none,supersS_iff]
    exact fun h=>c2 (hcat.2 ⟨h.1,fun u hu=>(h.2 u hu).1⟩)
   have hn:namesU [] (allU m l)=false:=by
    rw [← Bool.not_eq_true]; exact fun h=>c2 (hnames.1 h)
   rw [hsup,hn]; rfl
 ·rw [if_neg c1,decide_eq_false c1]; rfl
end Go.Abs.AbsHier

namespace Go.Abs.AbsHier
open Go.Abs.AbsDesc
end Go.Abs.AbsHier
