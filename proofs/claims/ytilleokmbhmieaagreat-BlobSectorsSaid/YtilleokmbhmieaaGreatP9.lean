/-
  Texts joined.
-/
import Derived.Test.YtilleokmbhmieaaGreatP0
import Derived.Test.YtilleokmbhmieaaGreatP8
import Derived.Test.YtilleokmbhmieaaGreatP7
import Derived.Lib.MakeNoZero
set_option linter.unusedVariables false
set_option linter.unusedSimpArgs false
set_option maxRecDepth 100000
namespace Go.Abs.AbsBlb
open Go.Abs.Short
theorem FRow.monoE {α:Type} {N e:Nat} {f:α→List AVal} {A:List α} {P P':List AObj} {x:AVal} (h:FRow N e f A P x) (hk:∀ (k:Nat) (cs:List AVal),N≤k→P[k]? = some (.cells e cs)→P'[k]? = some (.cells e cs)):FRow N e f A P' x:=by
 rcases h with h | ⟨h0,q,h1,h2,h3⟩
 ·exact .inl h
 ·exact .inr ⟨h0,q,h1,h2,hk _ _ h1 h3⟩
def ChU.toR (c:ChU):RecU:=if c.del then ⟨2,1,c.key,[],0⟩ else ⟨1,1,c.key,c.blob,0⟩
def RV.new (N:Nat) (P:List AObj) (p:RV):Prop:=BlobV P p.2 p.1.blob∧∀ q o n k,p.2 = .slice (some (q,o)) n k→N≤q∧∃ X,P[q]? = some (.cells 1 X)
theorem RV.new.mono {N:Nat} {P P':List AObj} {p:RV} (h:p.new N P) (hl:P.length≤P'.length) (hk:∀ (k:Nat) (X:List AVal),N≤k→P[k]? = some (.cells 1 X)→P'[k]? = some (.cells 1 X)):p.new N P':=by
 obtain ⟨h1,h2⟩:=h
 refine ⟨h1.mono hl fun q o n k e x hx=>?_,fun q o n k e=>?_⟩
 ·obtain ⟨h5,X,h6⟩:=h2 q o n k e
  rw [h6] at hx
  cases hx
  exact hk _ _ h5 h6
 ·obtain ⟨h5,X,h6⟩:=h2 q o n k e
  exact ⟨h5,X,hk _ _ h5 h6⟩
def ChU.fine (H:List AObj) (c:ChU):Prop:=BlobV H c.v c.blob∧(∃ p o n k,c.v = .slice (some (p,o)) n k)∧1≤c.key.length∧c.key.length≤64∧c.blob.length≤4096
theorem ChU.fine.right {H:List AObj} {c:ChU} (h:c.fine H):c.toR.right=true∧c.toR.txn=1:=by
 obtain ⟨-,-,h1,h2,h3⟩:=h
 unfold ChU.toR RecU.right rightB
 cases c.del
 ·simp [h1,h2,h3]
 ·simp [h1,h2]
section
variable {H0:List AObj} {b m:Nat}
section
attribute [-simp] getElem?_pos getElem?_neg List.all_eq_true
attribute [local simp] qZ qS nltT nltF iltT iltF ileT nleT dj
theorem l581 {L:List ChU} {la:Option (Nat × Nat)} {lc:Option Nat} (hR:Row H0 3 ChU.cells L la) (hLn:L.length≤16) (hL:∀ c ∈ L,c.fine H0) (hb:b≤H0.length) (hm:m=H0.length):∀ (j i w:Nat) (P:List AObj) (S:List Bs) (A:List RV) (x:AVal),i+j=L.length→A.length=i→Pre H0 P→P[m]? = some (setM S)→FRow H0.length 5 RV.cells A P x→(∀ p ∈ A,p.new H0.length P) →
  ∃ (P':List AObj) (A':List RV) (x':AVal) (w':Nat),Pre H0 P'∧P'[m]? = some (setM ((L.drop i).foldl (fun S c=>addK S c.key) S))∧FRow H0.length 5 RV.cells (A++A') P' x'∧A'.map Prod.fst=(L.drop i).map ChU.toR∧(∀ p ∈ A++A',p.new H0.length P')∧(H0.length≤w→H0.length≤w')∧∀ {β:Type} (k:AExit→St→Option β),
  xK T (.loop code581L0) ⟨[(0,.val (.slice la L.length lc)),(4,.val (.map (some m))),(5,.val x),(20,.val (.slice la L.length lc)),(21,.val (.int .i64 L.length)),(22,.val (.int .i64 i))],⟨P,b,w⟩⟩ (k:=⟨k⟩) =
   k (.exit 0) ⟨[(0,.val (.slice la L.length lc)),(4,.val (.map (some m))),(5,.val x')],⟨P',b,w'⟩⟩
 | 0,i,w,P,S,A,x,hi,hA,hp,hs,hx,hn=>by
  have hd:L.drop i=[]:=dx (by omega)
  refine ⟨P,[],x,w,hp,by rw [hd]; exact hs,by rw [fg]; exact hx,by rw [hd]; rfl,by rw [fg]; exact hn,fun h=>h,fun k=>?_⟩
  rw [b9]
  simp (disch:=omega) [code581L0]
 | j+1,i,w,P,S,A,x,hi,hA,hp,hs,hx,hn=>by
  obtain ⟨c,hc⟩:∃ c,L[i]? = some c:=⟨_,aj (by omega)⟩
  obtain ⟨bb,o,cs,rfl,hrow,hpart⟩:=hR.at' (ne_of_get hc)
  obtain ⟨p1,p2⟩:=hpart i c hc
  have hcm:=bn hc
  have hfine:=hL c hcm
  obtain ⟨hr,hr1⟩:=hfine.right
  obtain ⟨hbv,⟨vp,vo,vn,vk,hv⟩,k1,k2,k3⟩:=hfine
  have hd1:=ip hc
  have hPr:P[bb]? = some (.cells 3 cs):=hp _ _ hrow
  have hbP:BlobV P c.v c.blob:=hbv.mono hp.len fun _ _ _ _ _ x hx=>hp _ _ hx
  obtain ⟨c',y1,y2⟩:∃ c',(∀ w,xCall T 100465 [c.v] ⟨P,b,w⟩=some (.slice (some (P.length,0)) c.blob.length c',⟨P++[.cells 1 (c.blob.map u8V)],b,w⟩))∧c.blob.length≤c'.getD c.blob.length:=p465 hbP hv (by omega)
  have hvp:vp < P.length:=by
   obtain ⟨a,d,e,h2,-⟩:=hbP
   rw [hv] at e
   simp only [AVal.slice.injEq] at e
   exact h2 vp vo e.1.symm
  have hml:=ah hs
  have hpl:=hp.len
  let v:AVal:=if c.del then .slice none 0 (some 0) else .slice (some (P.length,0)) c.blob.length c'
  have hg0:(P++[AObj.cells 1 (c.blob.map u8V),AObj.cells 5 (c.toR.cells v)])[P.length]? = some (.cells 1 (c.blob.map u8V)):=by rw [au (ai _),Nat.sub_self]; rfl
  have hvn:RV.new H0.length (P++[AObj.cells 1 (c.blob.map u8V),AObj.cells 5 (c.toR.cells v)]) (c.toR,v):=by
   cases hd:c.del with
   | true =>
    have e1:v = .slice none 0 (some 0):=if_pos hd
    have e2:c.toR.blob=[]:=by unfold ChU.toR; rw [hd]; rfl
    rw [e1]
    refine ⟨⟨none,some 0,by rw [e2]; rfl,(fun p o h=>by cases h),.inl e2⟩,fun q o n k e=>by cases e⟩
   | false =>
    have e1:v = .slice (some (P.length,0)) c.blob.length c':=if_neg (by rw [hd]; decide)
    have e2:c.toR.blob=c.blob:=by unfold ChU.toR; rw [hd]; rfl
    rw [e1] at hg0 ⊢
    refine ⟨⟨some (P.length,0),c',by rw [e2],fun p o e=>?_,.inr ⟨P.length,0,rfl,by rw [e2]; exact SlB.whole hg0 rfl,by rw [e2]; exact y2⟩⟩,fun q o n k e=>?_⟩
    ·simp only [dk,ji] at e
     rw [← e.1]; exact ah hg0
    ·simp only [AVal.slice.injEq,dk,ji] at e
     rw [← e.1.1]
     exact ⟨hpl,_,hg0⟩
  have hvb:BlobV (P++[AObj.cells 1 (c.blob.map u8V),AObj.cells 5 (c.toR.cells v)]) v c.toR.blob:=hvn.1
  have h596:=fun w=>s596 (b:=b) (w:=w) hvb hr (by rw [hr1]; decide) (by rw [ap]; omega)
  have hs2:(P++[AObj.cells 1 (c.blob.map u8V),AObj.cells 5 (c.toR.cells v)]++[.cells 1 ((recB c.toR).map u8V)])[m]? = some (setM S):=by
   rw [ag (by rw [ap]; omega),ag hml]; exact hs
  have hk:=fun w=>ext_key (b:=b) (w:=w) hs2 (k:=c.key) (by omega)
  have hl2:(P++[AObj.cells 1 (c.blob.map u8V),AObj.cells 5 (c.toR.cells v)]++[AObj.cells 1 ((recB c.toR).map u8V)]).length=P.length+3:=by simp
  have hs3:=ij hs2 (y:=setM (addK S c.key))
  have hg5:(P++[AObj.cells 1 (c.blob.map u8V),AObj.cells 5 (c.toR.cells v)]++[AObj.cells 1 ((recB c.toR).map u8V)])[P.length+1]? = some (.cells 5 (c.toR.cells v)):=by
   rw [aw,au (show P.length≤P.length+1 by omega),gg]; rfl
  generalize hP2:P++[AObj.cells 1 (c.blob.map u8V),AObj.cells 5 (c.toR.cells v)]++[AObj.cells 1 ((recB c.toR).map u8V)]=P2 at *
  have up:∀ (k:Nat) (o:AObj),k≠m→P[k]? = some o→(P2.set m (setM (addK S c.key)))[k]? = some o:=fun k o hk ho=>by
   rw [aq (fun e=>hk e.symm),← hP2,aw,ag (ah ho)]; exact ho
  have hl3:(P2.set m (setM (addK S c.key))).length=P.length+3:=by rw [av,hl2]
  have upm:∀ (k:Nat) (e:Nat) (cs:List AVal),P[k]? = some (.cells e cs)→(P2.set m (setM (addK S c.key)))[k]? = some (.cells e cs):=fun k e cs ho=>up k _ (fun e'=>by rw [e',hs] at ho; simp [setM] at ho) ho
  have fr3:=hx.monoE (P':=P2.set m (setM (addK S c.key))) fun k cs hk ho=>upm k _ _ ho
  obtain ⟨P4,x4,n4,f1,f2,f3,f4,f5⟩:=fr3.add' (b:=b) (by':=64) (fun _=>rfl) (by omega) hb (by omega) (by omega) (c.toR,v)
  have hnew:∀ p ∈ A++[(c.toR,v)],RV.new H0.length P4 p:=fun p hp4=>by
   rcases br.1 hp4 with h4 | h4
   ·exact (hn p h4).mono (by omega) fun k X hk ho=>f2 _ _ (upm _ _ _ ho) fun _ cs e=>by simp at e
   ·rw [bi.1 h4]
    refine hvn.mono (by rw [ap]; simp; omega) fun k X hk ho=>f2 _ _ ?_ fun _ cs e=>by simp at e
    have hkm:m≠k:=fun e=>by
     rw [← e,ag hml,hs] at ho
     simp [setM] at ho
    rw [aq hkm,← hP2,ag (ah ho)]; exact ho
  have hpre4:Pre H0 P4:=fun k o ho=>f2 _ _ (up k o (by have:=ah ho; omega) (hp _ _ ho)) fun h=>by have:=ah ho; omega
  have hm4:=f2 _ _ hs3 fun _ cs e=>by simp [setM] at e
  obtain ⟨P',A',x',w',i1,i2,i3,i4,i5,i6,i7⟩:=l581 (lc:=lc) hR hLn hL hb hm j (i+1) (n4 (min (min w (P.length+1)) m)) P4 _ _ x4 (by omega) (by rw [ap]; simp; omega) hpre4 hm4 f1 hnew
  refine ⟨P',(c.toR,v) :: A',x',w',i1,by rw [hd1]; exact i2,by rw [aw] at i3; exact i3,by rw [hd1,bc,bc,i4],fun p hp5=>i5 p (by rw [aw]; exact hp5),fun hw=>i6 (by have:=(f4 (min (min w (P.length+1)) m)).2; omega),fun k=>?_⟩
  have ih:=i7 k
  have e2:((i+1:Nat):Int)=(i:Int)+1:=by omega
  rw [e2] at ih
  rw [b9,← ih]
  have hcc:ChU.cells c=[.bool c.del,.str c.key,c.v]:=rfl
  rw [hcc] at p2
  generalize ACode.loop code581L0=LL
  rw [hv] at y1 p2
  rw [hl3] at f5
  unfold RV.cells RecU.cells at f5
  unfold RecU.cells at h596 hg5
  cases hd:c.del with
  | true =>
   have e1:v = .slice none 0 (some 0):=if_pos hd
   have e3:c.toR=⟨2,1,c.key,[],0⟩:=by unfold ChU.toR; rw [hd]; rfl
   rw [e1,e3] at h596 f5 hg5
   rw [hd] at p2
   simp only [a9] at h596 f5 hg5
   simp (disch:=omega) [code581L0,-aAppend,-evExt,-rdIds,jr,js,im,hPr,p1,p2,y1,h596,hk,f5,hvp,hg5,hl2,ge]
  | false =>
   have e1:v = .slice (some (P.length,0)) c.blob.length c':=if_neg (by rw [hd]; decide)
   have e3:c.toR=⟨1,1,c.key,c.blob,0⟩:=by unfold ChU.toR; rw [hd]; rfl
   rw [e1,e3] at h596 f5 hg5
   rw [hd] at p2
   simp only [a9] at h596 f5 hg5
   simp (disch:=omega) [code581L0,-aAppend,-evExt,-rdIds,jr,js,im,hPr,p1,p2,y1,h596,hk,f5,hvp,hg5,hl2,ge]
end
end
end Go.Abs.AbsBlb

namespace Go.Abs.AbsBlb
open Go.Abs.Short
theorem ite2 {α β:Type} {c d:Prop} [Decidable c] [Decidable d] (f:α→β) {x y z:α}:f (if c then x else if d then y else z)=if c then f x else if d then f y else f z:=by
 by_cases h:c
 ·rw [if_pos h,if_pos h]
 ·rw [if_neg h,if_neg h]
  by_cases k:d
  ·rw [if_pos k,if_pos k]
  ·rw [if_neg k,if_neg k]
theorem finish_w {O P:List AObj} {b w w':Nat} {v:AVal} (hw:O.length≤w'):finish ⟨O,b,w⟩ v ⟨P,b,w'⟩=((finish ⟨O,b,0⟩ v ⟨P,b,w'⟩).1,{ (finish ⟨O,b,0⟩ v ⟨P,b,w'⟩).2 with wmin:=w }):=by
 have h1:¬ w' < O.length:=by omega
 unfold finish
 simp only [Heap.size,h1,if_false]
 exact Eq.symm (Eq.trans (ite2 (fun p:AVal × Heap=>(p.1,({ p.2 with wmin:=w }:Heap)))) rfl)
theorem finish_any {O P:List AObj} {b w':Nat} {v:AVal} (hv:v.under O.length=false) (hw:O.length≤w') :
  (∀ w,finish ⟨O,b,w⟩ v ⟨P,b,w'⟩=(v,⟨P,b,w⟩)) ∨
  (∃ f I X,(∀ w,finish ⟨O,b,w⟩ v ⟨P,b,w'⟩=(v.ren f,⟨O++X,b,w⟩))∧Moves f I O.length P (O++X)∧(∀ j ∈ v.ids,O.length≤j→I j)):=by
 rcases finish_cases (h0:=⟨O,b,0⟩) (h:=⟨P,b,w'⟩) hv with ⟨w1,e,-⟩ | ⟨-,f,I,X,e,hm,hi⟩
 ·exact .inl fun w=>by rw [finish_w hw,e]
 ·exact .inr ⟨f,I,X,fun w=>by rw [finish_w hw,e],hm,hi⟩
theorem SlB.moves {f:Nat→Nat} {I:Nat→Prop} {n:Nat} {O O':List AObj} (h:Moves f I n O O') {p o k:Nat} {l:Bs} (hs:SlB O p o k l) (hi:I p):SlB O' (f p) o k l:=by
 obtain ⟨h1,X,h2,h3⟩:=hs
 refine ⟨h1,AVal.renL f X,h.at' p _ hi h2,?_⟩
 rw [renL_map,← List.map_drop,← List.map_take,h3,← renL_map]
 exact renL_u8 f l
theorem BlobV.moves {f:Nat→Nat} {I:Nat→Prop} {n:Nat} {O O':List AObj} (h:Moves f I n O O') {v:AVal} {l:Bs} (hv:BlobV O v l) (hi:∀ p o k c,v = .slice (some (p,o)) k c→I p∧∃ X,O[p]? = some (.cells 1 X)) :
  BlobV O' (v.ren f) l:=by
 obtain ⟨a,c,rfl,h1,h2⟩:=hv
 rw [ren_sl]
 refine ⟨renA f a,c,rfl,fun p o e=>?_,?_⟩
 ·cases a with
  | none=>cases e
  | some q =>
   obtain ⟨q,r⟩:=q
   simp only [renA,dk,ji] at e
   obtain ⟨h3,X,h4⟩:=hi q r _ _ rfl
   rw [← e.1]; exact ah (h.at' q _ h3 h4)
 ·rcases h2 with h2 | ⟨p,o,rfl,h5,h8⟩
  ·exact .inl h2
  ·exact .inr ⟨f p,o,rfl,h5.moves h (hi p o _ _ rfl).1,h8⟩
def RV.mv (f:Nat→Nat) (p:RV):RV:=(p.1,p.2.ren f)
theorem RV.mv_cells (f:Nat→Nat) (p:RV):AVal.renL f (RV.cells p)=RV.cells (p.mv f):=by
 simp [RV.cells,RecU.cells,RV.mv,AVal.renL,AVal.ren]
theorem RV.mv_flat (f:Nat→Nat) (A:List RV):AVal.renL f (A.flatMap RV.cells)=(A.map (RV.mv f)).flatMap RV.cells:=by
 induction A with
 | nil=>rfl
 | cons p A ih =>
  rw [d0,bc,d0,← ih,← RV.mv_cells,renL_map,renL_map,renL_map,List.map_append]
theorem rows_fin {O P:List AObj} {b w':Nat} {A:List RV} {x:AVal} (mk:AVal→AVal) (h1:∀ y,(mk y).ids=y.ids) (h2:∀ f y,(mk y).ren f=mk (y.ren f)) (h3:∀ n p o k c,(mk (.slice (some (p,o)) k c)).under n=decide (p < n))
  (hne:A≠[]) (hx:FRow O.length 5 RV.cells A P x) (hA:∀ p ∈ A,p.new O.length P) (hp:Pre O P) (hw:O.length≤w') :
  ∃ H' A' x',Pre O H'∧FRow O.length 5 RV.cells A' H' x'∧A'.map Prod.fst=A.map Prod.fst∧(∀ p ∈ A',p.new O.length H')∧∀ w,finish ⟨O,b,w⟩ (mk x) ⟨P,b,w'⟩=(mk x',⟨H',b,w⟩):=by
 rcases hx with ⟨h,-⟩ | ⟨-,q,hq,rfl,hr⟩
 ·exact absurd h hne
 ·have hv:(mk (.slice (some (q,0)) A.length none)).under O.length=false:=by rw [h3]; exact decide_eq_false (by omega)
  rcases finish_any (b:=b) (P:=P) hv hw with e | ⟨f,I,X,e,hm,hi⟩
  ·exact ⟨P,A,_,hp,.inr ⟨hne,q,hq,rfl,hr⟩,rfl,hA,e⟩
  ·have hIq:I q:=hi q (by rw [h1]; simp [AVal.ids]) hq
   have hcl:=hm.cl q _ hIq hr
   have hIp:∀ p ∈ A,∀ i o k c,p.2 = .slice (some (i,o)) k c→I i∧∃ X,P[i]? = some (.cells 1 X):=fun p hpA i o k c e=>by
    obtain ⟨g1,g2⟩:=(hA p hpA).2 i o k c e
    refine ⟨hcl i ?_ g1,g2⟩
    show i ∈ AVal.idsL _
    rw [idsL_flat,da]
    refine ⟨p.2,da.2 ⟨p,hpA,?_⟩,by rw [e]; simp [AVal.ids]⟩
    simp [RV.cells,RecU.cells]
   refine ⟨O++X,A.map (RV.mv f),.slice (some (f q,0)) A.length none,fun k o hk=>by rw [ag (ah hk)]; exact hk,.inr ⟨by simpa using hne,f q,hm.up q hq,by rw [bj],?_⟩,?_,?_,fun w=>?_⟩
   ·have:=hm.at' q _ hIq hr
    rw [this,← RV.mv_flat]; rfl
   ·rw [List.map_map]; rfl
   ·intro p' hp'
    obtain ⟨p,hpA,rfl⟩:=cg.1 hp'
    refine ⟨(hA p hpA).1.moves hm (hIp p hpA),fun i o k c e=>?_⟩
    obtain ⟨r,v⟩:=p
    obtain ⟨⟨a,d,hv',-,-⟩,-⟩:=hA _ hpA
    simp only at hv'
    subst hv'
    have e:(AVal.slice a r.blob.length d).ren f = .slice (some (i,o)) k c:=e
    rw [ren_sl] at e
    cases a with
    | none=>simp [renA] at e
    | some y =>
     obtain ⟨y1,y2⟩:=y
     simp only [renA,AVal.slice.injEq,dk,ji] at e
     obtain ⟨g1,X',g2⟩:=hIp _ hpA y1 y2 _ _ rfl
     obtain ⟨g3,-⟩:=(hA _ hpA).2 y1 y2 _ _ rfl
     rw [← e.1.1]
     exact ⟨hm.up _ g3,_,hm.at' _ _ g1 g2⟩
   ·rw [e w,h2]; simp [AVal.ren]
section
variable {H:List AObj} {b:Nat}
section
attribute [-simp] getElem?_pos getElem?_neg List.all_eq_true
attribute [local simp] qZ qS nltT nltF iltT iltF ileT nleT dj
theorem p581 {L:List ChU} {la:Option (Nat × Nat)} {lc:Option Nat} (hR:Row H 3 ChU.cells L la) (h0:L≠[]) (hLn:L.length≤16) (hL:∀ c ∈ L,c.fine H) (hb:b≤H.length) :
  ((L.foldl (fun S c=>addK S c.key) []).length < L.length∧∀ w,xCall T 581 [.slice la L.length lc] ⟨H,b,w⟩=some (.tuple [.slice none 0 (some 0),.int .i64 12],⟨H,b,w⟩)) ∨
  (¬ (L.foldl (fun S c=>addK S c.key) []).length < L.length∧∃ H' A x,Pre H H'∧FRow H.length 5 RV.cells A H' x∧A.map Prod.fst=L.map ChU.toR∧(∀ p ∈ A,p.new H.length H') ∧
   ∀ w,xCall T 581 [.slice la L.length lc] ⟨H,b,w⟩=some (.tuple [x,.int .i64 0],⟨H',b,w⟩)):=by
 have hl0:0 < L.length:=List.length_pos_iff.2 h0
 obtain ⟨P',A',x',w',i1,i2,i3,i4,i5,i6,i7⟩:=l581 (b:=b) (lc:=lc) hR hLn hL hb rfl L.length 0 H.length (H++[setM []]) [] [] (.slice none 0 (some 0)) (by omega) rfl (fun k o hk=>by rw [ag (ah hk)]; exact hk) (fp H _) (.inl ⟨rfl,rfl⟩) (fun p hp=>by cases hp)
 rw [dz] at i2 i4
 rw [eh] at i3 i5
 have hw':H.length≤w':=i6 (ai _)
 generalize L.foldl (fun S c=>addK S c.key) []=S at *
 have hA:A'≠[]:=fun e=>by
  rw [e] at i4
  have:=congrArg List.length i4
  rw [bj] at this
  simp at this; omega
 have hSl:((ksE 0 S).length)=S.length:=ksE_len 0 S
 unfold setM at i2
 simp only [a9] at i7
 by_cases c:S.length < L.length
 ·refine .inl ⟨c,fun w=>?_⟩
  have hs0:setM [] = .map [] 0:=rfl
  rw [hs0] at i7
  simp (disch:=omega) [ba t581,code581,h0,i7,i2,hSl,c]
 ·obtain ⟨H',A,x,j1,j2,j3,j4,j5⟩:=rows_fin (b:=b) (fun y=>.tuple [y,.int .i64 0]) (fun y=>by simp [AVal.ids,AVal.idsL]) (fun f y=>by simp [AVal.ren,AVal.renL]) (fun n p o k c=>by simp [AVal.under,AVal.unders]) hA i3 i5 i1 hw'
  refine .inr ⟨c,H',A,x,j1,j2,by rw [j3,i4],j4,fun w=>?_⟩
  have hs0:setM [] = .map [] 0:=rfl
  rw [hs0] at i7
  simp (disch:=omega) [ba t581,code581,-finish,h0,i7,i2,hSl,c,j5]
end
end
end Go.Abs.AbsBlb

namespace Go.Abs.AbsBlb
theorem look_congr {F F':Fl} {i:Nat} (h1:F'.z=F.z) (h2:∀ j,j < F.z→F'.b[i*F.z+j]? = F.b[i*F.z+j]?) (h3:F'.w[i]? = F.w[i]?):F'.look i=F.look i:=by
  unfold Fl.look
  have:F'.sec i=F.sec i:=by
    refine gu fun j=>?_
    by_cases c:j < F.z
    · rw [Fl.sec_get (by rw [h1]; exact c),Fl.sec_get c,h1,h2 j c]
    · unfold Fl.sec
      rw [dp,dp,if_neg (by rw [h1]; exact c),if_neg c]
  rw [this,h3]
theorem take_eq {l l':Bs} {n m:Nat} (h:l'.take n=l.take n) (hm:m≤n):l'.take m=l.take m:=by
  have:=congrArg (List.take m) h
  rw [List.take_take,List.take_take,Nat.min_eq_left hm] at this
  exact this
theorem drop_take_eq {l l':Bs} {n a k:Nat} (h:l'.take n=l.take n) (hm:a+k≤n):(l'.drop a).take k=(l.drop a).take k:=by
  have h1:=take_eq h hm
  have e:∀ l:Bs,(l.drop a).take k=(l.take (a+k)).drop a:=fun l=>by rw [List.drop_take]; congr 1; omega
  rw [e,e,h1]
theorem get_take_eq {l l':Bs} {n j:Nat} (h:l'.take n=l.take n) (hj:j < n):l'[j]? = l[j]?:=by
  have:(l'.take n)[j]? = (l.take n)[j]?:=by rw [h]
  rwa [dp,dp,if_pos hj,if_pos hj] at this
theorem look_head {l l':Bs} {er:Nat} (h:l'.take 12=l.take 12) (hu:(lookB l er).st=2):lookB l' er=lookB l er:=by
  unfold lookB at hu
  have hb:¬ blankB l=true:=fun e=>by rw [if_pos e] at hu; cases hu
  rw [if_neg hb] at hu
  by_cases hc:parseE l=0∧l[8]? = some 0∧l[9]? = some 255
  · have hb':¬ blankB l'=true:=fun e=>by
      have h8:l'[8]? = some 0:=by rw [get_take_eq h (by decide)]; exact hc.2.1
      have:=blank_get e (ah h8)
      rw [h8] at this
      cases this
    have hp:parseE l'=parseE l:=by
      unfold parseE
      rw [take_eq h (m:=2) (by decide),take_eq h (m:=6) (by decide),drop_take_eq h (a:=6) (k:=2) (by decide)]
    unfold lookB
    rw [if_neg hb,if_neg hb',hp,get_take_eq h (j:=8) (by decide),get_take_eq h (j:=9) (by decide),drop_take_eq h (a:=2) (k:=4) (by decide)]
  · rw [if_neg hc] at hu; cases hu
theorem look_used {F F':Fl} {i:Nat} (h1:F'.z=F.z) (hz:12≤F.z) (h2:∀ j,j < 12→F'.b[i*F.z+j]? = F.b[i*F.z+j]?) (h3:F'.w[i]? = F.w[i]?) (hu:(F.look i).st=2):F'.look i=F.look i:=by
  unfold Fl.look at hu ⊢
  rw [h3]
  refine look_head (gu fun j=>?_) hu
  rw [dp,dp]
  split
  · rw [Fl.sec_get (by rw [h1]; omega),Fl.sec_get (by omega),h1,h2 j (by omega)]
  · rfl
theorem look_er (F:Fl) (i:Nat):(F.look i).er=((F.w[i]?).getD 0:Nat):=by
  unfold Fl.look lookB
  repeat' split
  all_goals rfl
theorem sec_apart {i h z j:Nat} (hne:i≠h) (hj:j < z):i*z+j < h*z∨h*z+z≤i*z+j:=by
  rcases Nat.lt_or_gt_of_ne hne with c | c
  · left
    have:(i+1)*z≤h*z:=fj z c
    rw [dr,Nat.one_mul] at this
    omega
  · right
    have:(h+1)*z≤i*z:=fj z c
    rw [dr,Nat.one_mul] at this
    omega
theorem sec_in {i n z:Nat} (hi:i < n):i*z+z≤n*z:=by
  have:(i+1)*z≤n*z:=fj z hi
  rw [dr,Nat.one_mul] at this
  exact this
def Ent.size (e:Ent):Nat:=16+e.1.length+e.2.1.blob.length
def secSum (i:Nat) (ix:List Ent):Nat:=(ix.map fun e=>if e.2.1.sec=i then Ent.size e else 0).sum
theorem sum_modify (g:Ent→Nat) (f:Ent→Ent) {x:Ent}:∀ (l:List Ent) (i:Nat),l[i]? = some x→((l.modify i f).map g).sum+g x=(l.map g).sum+g (f x)
  | [],i,h=>by simp at h
  | a :: l,0,h=>by
    simp only [List.getElem?_cons_zero,dk] at h
    subst h
    simp [List.modify]
    omega
  | a :: l,i+1,h=>by
    have ih:=sum_modify g f l i (by simpa using h)
    rw [List.modify_succ_cons,bc,bc,dt,dt]
    omega
theorem sum_erase (g:Ent→Nat):∀ (l:List Ent) (i:Nat),((l.eraseIdx i).map g).sum≤(l.map g).sum
  | [],i=>by simp
  | a :: l,0=>by simp
  | a :: l,i+1=>by
    have ih:=sum_erase g l i
    rw [List.eraseIdx_cons_succ,bc,bc,dt,dt]
    omega
theorem findK_some {k:Bs}:∀ {l:List Ent} {x:Nat × PlU},findK k l=some x→∃ e,l[x.1]? = some e∧e.1=k∧e.2.1=x.2
  | [],x,h=>by cases h
  | a :: l,x,h=>by
    unfold findK at h
    by_cases c:a.1=k
    · rw [if_pos c] at h
      cases h
      exact ⟨a,rfl,c,rfl⟩
    · rw [if_neg c] at h
      rw [ae] at h
      obtain ⟨y,h1,rfl⟩:=h
      obtain ⟨e,h2,h3,h4⟩:=findK_some h1
      exact ⟨e,by simpa using h2,h3,h4⟩
theorem findK_none {k:Bs}:∀ {l:List Ent},findK k l=none→∀ e ∈ l,e.1≠k
  | [],_,e,he=>by cases he
  | a :: l,h,e,he=>by
    unfold findK at h
    by_cases c:a.1=k
    · rw [if_pos c] at h; cases h
    · rw [if_neg c,Option.map_eq_none_iff] at h
      rcases c9.1 he with rfl | he
      · exact c
      · exact findK_none h e he
structure IxOK (ix:List Ent) (clock:Nat):Prop where
  k:(ix.map (·.1)).Nodup
  t:(ix.map (·.2.2)).Nodup
  c:∀ e ∈ ix,e.2.2 < clock
structure IxUp (ix ix':List Ent) (ks:List Bs) (sec tot:Nat) (blobs:List Bs):Prop where
  m:∀ e ∈ ix',(e ∈ ix∧e.1 ∉ ks)∨(e.1 ∈ ks∧e.2.1.sec=sec∧e.2.1.blob ∈ blobs)
  s:∀ i,secSum i ix'≤secSum i ix+if i=sec then tot else 0
theorem get_unique {ix:List Ent} {i j:Nat} {x y:Ent} (h:(ix.map (·.1)).Nodup) (hx:ix[i]? = some x) (hy:ix[j]? = some y) (e:x.1=y.1):i=j:=by
  have h1:(ix.map (·.1))[i]? = some x.1:=by rw [bk,hx]; rfl
  have h2:(ix.map (·.1))[j]? = some x.1:=by rw [bk,hy,e]; rfl
  have hl:=ah h1
  exact (List.getElem?_inj hl h).1 (h1.trans h2.symm)
theorem map_modify_same {β:Type} (g:Ent→β) (f:Ent→Ent) {x:Ent} (h:g (f x)=g x):∀ (l:List Ent) (i:Nat),l[i]? = some x→(l.modify i f).map g=l.map g
  | [],i,hx=>by simp at hx
  | a :: l,0,hx=>by
    simp only [List.getElem?_cons_zero,dk] at hx
    subst hx
    simp [List.modify,h]
  | a :: l,i+1,hx=>by
    rw [List.modify_succ_cons,bc,bc,map_modify_same g f h l i (by simpa using hx)]
theorem put_ok {K:StU} {k:Bs} {p:PlU} (h:IxOK K.ix K.clock):IxOK (K.put k p).ix (K.put k p).clock∧IxUp K.ix (K.put k p).ix [k] p.sec (16+k.length+p.blob.length) [p.blob]:=by
  unfold StU.put
  cases hf:findK k K.ix with
  | some x =>
    obtain ⟨e,h1,h2,h3⟩:=findK_some hf
    simp only
    have q1:=map_modify_same (fun e:Ent=>e.1) (fun e=>(k,p,e.2.2)) (x:=e) h2.symm K.ix x.1 h1
    have q2:=map_modify_same (fun e:Ent=>e.2.2) (fun e=>(k,p,e.2.2)) (x:=e) rfl K.ix x.1 h1
    have hmem:∀ e' ∈ K.ix.modify x.1 (fun e=>(k,p,e.2.2)),(e' ∈ K.ix∧e'.1≠k)∨e'=(k,p,e.2.2):=fun e' he'=>by
      obtain ⟨j,hj⟩:=gw.1 he'
      rw [List.getElem?_modify] at hj
      split at hj
      · rename_i hij
        subst hij
        rw [h1] at hj
        right
        exact (bz hj).symm
      · rename_i hij
        have hj:K.ix[j]? = some e':=by
          cases hq:K.ix[j]? with
          | none=>rw [hq] at hj; cases hj
          | some y=>rw [hq] at hj; exact hj
        refine .inl ⟨bn hj,fun hk=>hij ?_⟩
        exact get_unique h.k h1 hj (h2.trans hk.symm)
    refine ⟨⟨by rw [q1]; exact h.k,by rw [q2]; exact h.t,fun e' he'=>?_⟩,⟨fun e' he'=>?_,fun i=>?_⟩⟩
    · rcases hmem e' he' with ⟨hh,-⟩ | rfl
      · exact h.c e' hh
      · exact h.c e (bn h1)
    · rcases hmem e' he' with ⟨hh,hk⟩ | rfl
      · exact .inl ⟨hh,by simpa using hk⟩
      · exact .inr ⟨by simp,rfl,by simp⟩
    · have this:secSum i (K.ix.modify x.1 fun e=>(k,p,e.2.2))+(if e.2.1.sec=i then Ent.size e else 0)=secSum i K.ix+(if p.sec=i then 16+k.length+p.blob.length else 0):=sum_modify (fun e=>if e.2.1.sec=i then Ent.size e else 0) (fun e=>(k,p,e.2.2)) K.ix x.1 h1
      by_cases c:p.sec=i
      · rw [if_pos c] at this
        rw [if_pos c.symm]
        omega
      · rw [if_neg c] at this
        rw [if_neg (fun e=>c e.symm)]
        omega
  | none =>
    have hn:=findK_none hf
    simp only
    refine ⟨⟨?_,?_,fun e' he'=>?_⟩,fun e' he'=>?_,fun i=>?_⟩
    · rw [List.map_append,List.nodup_append]
      refine ⟨h.k,by simp,fun a ha c hc=>?_⟩
      obtain ⟨e,he,rfl⟩:=cg.1 ha
      simp at hc
      subst hc
      exact hn e he
    · rw [List.map_append,List.nodup_append]
      refine ⟨h.t,by simp,fun a ha c hc=>?_⟩
      obtain ⟨e,he,rfl⟩:=cg.1 ha
      simp at hc
      subst hc
      have:=h.c e he
      omega
    · rcases br.1 he' with hh | hh
      · have:=h.c e' hh; omega
      · rw [bi.1 hh]; show K.clock < _; omega
    · rcases br.1 he' with hh | hh
      · exact .inl ⟨hh,by simpa using hn e' hh⟩
      · rw [bi.1 hh]; exact .inr ⟨by simp,rfl,by simp⟩
    · unfold secSum
      rw [List.map_append,List.sum_append]
      simp only [Ent.size,bc,List.map_nil,dt,List.sum_nil]
      by_cases c:p.sec=i
      · rw [if_pos c,if_pos c.symm]; omega
      · rw [if_neg c,if_neg (fun e=>c e.symm)]; omega
theorem del_ok {K:StU} {k:Bs} {sec tot:Nat} (h:IxOK K.ix K.clock):IxOK (K.del k).ix (K.del k).clock∧IxUp K.ix (K.del k).ix [k] sec tot []:=by
  unfold StU.del
  cases hf:findK k K.ix with
  | some x =>
    obtain ⟨e,h1,h2,h3⟩:=findK_some hf
    simp only
    have hsub:=List.eraseIdx_sublist K.ix x.1
    refine ⟨⟨(hsub.map _).nodup h.k,(hsub.map _).nodup h.t,fun e' he'=>h.c e' (hsub.subset he')⟩,fun e' he'=>.inl ⟨hsub.subset he',?_⟩,fun i=>?_⟩
    · intro hk
      rw [bi] at hk
      obtain ⟨j,hj⟩:=gw.1 he'
      rw [List.getElem?_eraseIdx] at hj
      split at hj
      · have:=get_unique h.k h1 hj (h2.trans hk.symm); omega
      · have:=get_unique h.k h1 hj (h2.trans hk.symm); omega
    · have this:secSum i (K.ix.eraseIdx x.1)≤secSum i K.ix:=sum_erase (fun e=>if e.2.1.sec=i then Ent.size e else 0) K.ix x.1
      show secSum i (K.ix.eraseIdx x.1)≤_
      split <;> omega
  | none =>
    have hn:=findK_none hf
    exact ⟨h,⟨fun e he=>.inl ⟨he,by simpa using hn e he⟩,fun i=>by
      show secSum i K.ix≤_
      split <;> omega⟩⟩
theorem IxUp.trans {a b c:List Ent} {k1 k2:List Bs} {sec t1 t2:Nat} {b1 b2:List Bs} (h:IxUp a b k1 sec t1 b1) (k:IxUp b c k2 sec t2 b2):IxUp a c (k1++k2) sec (t1+t2) (b1++b2) :=
  ⟨fun e he=>by
    rcases k.m e he with ⟨h1,h2⟩ | ⟨h1,h2,h3⟩
    · rcases h.m e h1 with ⟨h4,h5⟩ | ⟨h4,h5,h6⟩
      · exact .inl ⟨h4,fun hh=>(br.1 hh).elim h5 h2⟩
      · exact .inr ⟨c8 _ h4,h5,c8 _ h6⟩
    · exact .inr ⟨eg _ h1,h2,eg _ h3⟩,
   fun i=>by
    have h1:=h.s i
    have h2:=k.s i
    split at h1 <;> rename_i c
    · rw [if_pos c] at h2 ⊢; omega
    · rw [if_neg c] at h2 ⊢; omega⟩
theorem apply_ok {K:StU} {sec at_:Nat} {r:RecU} (h:IxOK K.ix K.clock):IxOK (K.apply sec at_ r).ix (K.apply sec at_ r).clock∧IxUp K.ix (K.apply sec at_ r).ix [r.key] sec r.size [r.blob]:=by
  unfold StU.apply
  split
  · obtain ⟨h1,h2⟩:=del_ok (K:=K) (k:=r.key) (sec:=sec) (tot:=r.size) h
    refine ⟨h1,⟨fun e he=>?_,h2.s⟩⟩
    rcases h2.m e he with h3 | ⟨_,_,h3⟩
    · exact .inl h3
    · cases h3
  · exact put_ok (p:=⟨sec,at_,r.blob⟩) h
theorem applyAll_ok {hd:Nat}:∀ {A:List FV} {K:StU},IxOK K.ix K.clock→IxOK (applyAll hd A K).ix (applyAll hd A K).clock∧IxUp K.ix (applyAll hd A K).ix (A.map fun x=>x.2.1.key) hd (sizes (A.map fun x=>x.2.1)) (A.map fun x=>x.2.1.blob)
  | [],K,h=>⟨h,fun e he=>.inl ⟨he,by simp⟩,fun i=>by
    show secSum i K.ix≤_
    split <;> omega⟩
  | x :: A,K,h=>by
    obtain ⟨h1,h2⟩:=apply_ok (sec:=hd) (at_:=x.1) (r:=x.2.1) h
    obtain ⟨h3,h4⟩:=applyAll_ok (hd:=hd) (A:=A) h1
    refine ⟨h3,?_⟩
    have:=h2.trans h4
    have e:sizes ((x :: A).map fun x=>x.2.1)=x.2.1.size+sizes (A.map fun x=>x.2.1):=by unfold sizes; rw [bc,bc,dt]
    rw [e]
    exact this
theorem applyAll_eq {hd:Nat}:∀ (A:List FV) (K:StU),(applyAll hd A K).secs=K.secs∧(applyAll hd A K).head=K.head∧(applyAll hd A K).at_=K.at_∧(applyAll hd A K).txn=K.txn∧(applyAll hd A K).seq=K.seq∧(applyAll hd A K).down=K.down
  | [],K=>⟨rfl,rfl,rfl,rfl,rfl,rfl⟩
  | x :: A,K=>by
    obtain ⟨a1,a2,a3,a4,a5,a6⟩:=apply_eq K hd x.1 x.2.1
    obtain ⟨b1,b2,b3,b4,b5,b6⟩:=applyAll_eq (hd:=hd) A (K.apply hd x.1 x.2.1)
    exact ⟨b1.trans a1,b2.trans a2,b3.trans a3,b4.trans a4,b5.trans a5,b6.trans a6⟩
theorem founds_keys {t:Nat}:∀ {L:List RV} {a:Nat},(founds t L a).map (fun x=>x.2.1.key)=L.map (fun p=>p.1.key)∧sizes ((founds t L a).map fun x=>x.2.1)=sizes (L.map Prod.fst)∧(founds t L a).map (fun x=>x.2.1.blob)=L.map (fun p=>p.1.blob)
  | [],a=>⟨rfl,rfl,rfl⟩
  | p :: L,a=>by
    obtain ⟨h1,h2,h3⟩:=founds_keys (t:=t) (L:=L) (a:=a+p.1.size)
    unfold founds
    refine ⟨by rw [bc,bc,h1]; rfl,?_,by rw [bc,bc,h3]; rfl⟩
    unfold sizes at h2 ⊢
    rw [bc,bc,dt,bc,bc,dt,h2]
    rfl
end Go.Abs.AbsBlb

namespace Go.Abs.AbsBlb
structure Inv (kl:List Bs) (F:Fl) (K:StU):Prop where
 gz:12≤F.z
 bl:F.b.length=F.n*F.z
 wl:F.w.length=F.n
 ln:K.secs.length=F.n
 lk:∀ i,i < F.n→K.secs[i]? = some (F.look i)
 dn:K.down=false
 hd:K.head = -1∨∃ h:Nat,K.head=h∧h < F.n∧(F.look h).st=2∧12≤K.at_∧K.at_≤F.z∧K.txn≤K.at_∧∀ j,K.at_≤j→j < F.z→F.b[h*F.z+j]? = some 255
 ix:IxOK K.ix K.clock
 en:∀ e ∈ K.ix,e.2.1.sec < F.n∧(F.look e.2.1.sec).st=2∧e.1 ∈ kl∧e.2.1.blob.length≤4096
 sz:∀ i:Nat,secSum i K.ix≠0→secSum i K.ix+28≤if K.head=i then K.at_ else F.z
theorem sum_zero {l:List Nat} (h:∀ x ∈ l,x=0):l.sum=0:=by
 induction l with
 | nil=>rfl
 | cons a l ih =>
  rw [dt,h a (a7 ..),ih fun x hx=>h x (bd _ hx)]
theorem sum_ge {l:List Nat} {x:Nat} (h:x ∈ l):x≤l.sum:=by
 induction l with
 | nil=>cases h
 | cons a l ih =>
  rw [dt]
  rcases c9.1 h with rfl | h
  ·omega
  ·have:=ih h; omega
theorem secSum_zero {i:Nat} {ix:List Ent} (h:∀ e ∈ ix,e.2.1.sec≠i):secSum i ix=0:=sum_zero fun x hx=>by
 obtain ⟨e,he,rfl⟩:=cg.1 hx
 exact if_neg (h e he)
theorem secSum_pos {i:Nat} {ix:List Ent} {e:Ent} (he:e ∈ ix) (hs:e.2.1.sec=i):Ent.size e≤secSum i ix:=by
 have:(if e.2.1.sec=i then Ent.size e else 0) ∈ ix.map fun e=>if e.2.1.sec=i then Ent.size e else 0:=cg.2 ⟨e,he,rfl⟩
 rw [if_pos hs] at this
 exact sum_ge this
theorem laid_len {F:Fl} {a:Nat} {r:RecU} (h:a+r.size≤F.b.length):(F.laid a r).b.length=F.b.length:=by
 have hlr:=len_rec r
 have e1:(spliceB F.b a (recB r)).length=F.b.length:=fm (by omega)
 show (spliceB (spliceB F.b a (recB r)) _ [0]).length=_
 rw [fm (by rw [e1]; show _+1≤_; omega),e1]
theorem wroteF_get {F:Fl} {hd a t j:Nat} {l:List RecU} (h:hd*F.z+a+sizes l+16≤F.b.length) (hj:j < hd*F.z+a∨hd*F.z+a+sizes l+16≤j) :
  (wroteF F hd a t l).b[j]? = F.b[j]?∧(wroteF F hd a t l).b.length=F.b.length:=by
 obtain ⟨h1,h2⟩:=layAll_get (hd*F.z) t (j:=j) l F a (by omega) (by omega)
 have hs:(comR t l.length).size=16:=rfl
 unfold wroteF
 refine ⟨(laid_get (by rw [h2,hs]; omega) (by rw [hs]; omega)).trans h1,(laid_len (by rw [h2,hs]; omega)).trans h2⟩
theorem wroteF_eq (F:Fl) (hd a t:Nat) (l:List RecU):(wroteF F hd a t l).n=F.n∧(wroteF F hd a t l).z=F.z∧(wroteF F hd a t l).lim=F.lim∧(wroteF F hd a t l).w=F.w:=layAll_eq (hd*F.z) t l F a
theorem write_inv {kl:List Bs} {F:Fl} {K:StU} (h:Inv kl F K) {hd:Nat} (hh:K.head=hd) {L:List RV} (hL:∀ p ∈ L,p.1.key ∈ kl∧p.1.blob.length≤4096) (hfit:K.at_+sizes (L.map Prod.fst)+16≤F.z) :
  Inv kl (wroteF F hd K.at_ (K.txn+1) (L.map Prod.fst)) (wroteK K hd L)∧(wroteK K hd L).head=hd∧(∀ e ∈ (wroteK K hd L).ix,(e ∈ K.ix∧e.1 ∉ L.map fun p=>p.1.key)∨((e.1 ∈ L.map fun p=>p.1.key)∧e.2.1.sec=hd))∧(∀ i,i < F.n→(wroteF F hd K.at_ (K.txn+1) (L.map Prod.fst)).look i=F.look i):=by
 obtain ⟨f1,f2,f3,f4⟩:=wroteF_eq F hd K.at_ (K.txn+1) (L.map Prod.fst)
 rcases h.hd with e | ⟨y,e,hn,hu,h12,haz,htx,hcl⟩
 ·omega
 obtain rfl:y=hd:=by omega
 have hin:=sec_in (z:=F.z) hn
 have hbl:=h.bl
 have hget:=fun j hj=>wroteF_get (F:=F) (hd:=y) (a:=K.at_) (t:=K.txn+1) (j:=j) (l:=L.map Prod.fst) (by omega) hj
 have hlen:=(hget 0 (by omega)).2
 have hz:=h.gz
 have hlook:∀ i,i < F.n→(wroteF F y K.at_ (K.txn+1) (L.map Prod.fst)).look i=F.look i:=fun i hi=>by
  by_cases c:i=y
  ·subst c
   exact look_used f2 hz (fun j hj=>(hget _ (by omega)).1) (by rw [f4]) hu
  ·refine look_congr f2 (fun j hj=>(hget _ ?_).1) (by rw [f4])
   have:=sec_apart c hj
   omega
 obtain ⟨k1,k2,k3⟩:=founds_keys (t:=K.txn+1) (L:=L) (a:=K.at_)
 have hxo:IxOK ({ K with txn:=K.txn+1,at_:=K.at_+sizes (L.map Prod.fst)+16 }:StU).ix ({ K with txn:=K.txn+1,at_:=K.at_+sizes (L.map Prod.fst)+16 }:StU).clock:=h.ix
 obtain ⟨x1,x2⟩:=applyAll_ok (hd:=y) (A:=founds (K.txn+1) L K.at_) hxo
 obtain ⟨a1,a2,a3,a4,a5,a6⟩:=applyAll_eq (hd:=y) (founds (K.txn+1) L K.at_) { K with txn:=K.txn+1,at_:=K.at_+sizes (L.map Prod.fst)+16 }
 rw [k1,k2,k3] at x2
 have hent:∀ e ∈ (wroteK K y L).ix,(e ∈ K.ix∧e.1 ∉ L.map fun p=>p.1.key)∨((e.1 ∈ L.map fun p=>p.1.key)∧e.2.1.sec=y∧e.2.1.blob ∈ L.map fun p=>p.1.blob):=x2.m
 refine ⟨⟨by rw [f2]; exact hz,by rw [hlen,f1,f2]; exact hbl,by rw [f4,f1]; exact h.wl,?_,fun i hi=>?_,?_,.inr ⟨y,a2.trans hh,by rw [f1]; exact hn,by rw [hlook y hn]; exact hu,?_,?_,?_,fun j hj1 hj2=>?_⟩,x1,fun e he=>?_,fun i hi=>?_⟩,a2.trans hh,fun e he=>(hent e he).imp id fun q=>⟨q.1,q.2.1⟩,hlook⟩
 ·show (wroteK K y L).secs.length=_
  unfold wroteK; rw [a1,f1]; exact h.ln
 ·rw [f1] at hi
  unfold wroteK; rw [a1,hlook i hi]; exact h.lk i hi
 ·unfold wroteK; rw [a6]; exact h.dn
 ·unfold wroteK; rw [a3]; show 12≤K.at_+_+16; omega
 ·unfold wroteK; rw [a3,f2]; exact hfit
 ·unfold wroteK; rw [a3,a4]; show K.txn+1≤K.at_+_+16; omega
 ·unfold wroteK at hj1
  rw [a3] at hj1
  rw [f2] at hj2 ⊢
  have hj1:K.at_+sizes (L.map Prod.fst)+16≤j:=hj1
  rw [(hget _ (by omega)).1]
  exact hcl j (by omega) hj2
 ·rw [f1]
  rcases hent e he with ⟨q1,q2⟩ | ⟨q1,q2,q3⟩
  ·obtain ⟨b1,b2,b3,b4⟩:=h.en e q1
   exact ⟨b1,by rw [hlook _ b1]; exact b2,b3,b4⟩
  ·obtain ⟨p,hp,e1⟩:=cg.1 q1
   obtain ⟨p',hp',e2⟩:=cg.1 q3
   refine ⟨by rw [q2]; exact hn,by rw [q2,hlook y hn]; exact hu,by rw [← e1]; exact (hL p hp).1,by rw [← e2]; exact (hL p' hp').2⟩
 ·have hs:=x2.s i
  have hs:secSum i (wroteK K y L).ix≤secSum i K.ix+if i=y then sizes (L.map Prod.fst) else 0:=hs
  have hold:=h.sz i
  have e1:(wroteK K y L).head=K.head:=a2
  have e2:(wroteK K y L).at_=K.at_+sizes (L.map Prod.fst)+16:=a3
  rw [e1,e2,f2]
  by_cases c:i=y
  ·subst c
   rw [if_pos rfl] at hs
   rw [if_pos hh] at hold ⊢
   by_cases c0:secSum i K.ix=0
   ·omega
   ·have:=hold c0
    omega
  ·rw [if_neg c] at hs
   have hc:¬ K.head=(i:Int):=by omega
   rw [if_neg hc] at hold ⊢
   have:=hold (by omega)
   omega
theorem prog1_get {F:Fl} {a j:Nat} {c:UInt8} (h:a < F.b.length) (hj:j≠a):(F.prog a [c]).b[j]? = F.b[j]?:=by
 show (spliceB F.b a [c])[j]? = _
 rw [jd (by show a+1≤_; omega)]
 split
 ·rfl
 ·rw [if_neg (by show ¬ _ < a+1; omega)]
theorem lookB_blank {l:Bs} {er:Nat} (h:∀ j,j < l.length→l[j]? = some 255):lookB l er=⟨0,0,er⟩:=by
 unfold lookB
 rw [if_pos (blank_of h)]
theorem drop_inv {kl:List Bs} {F:Fl} {K:StU} (h:Inv kl F K) {i x:Nat} (hx:F.w[i]? = some x) (hh:K.head≠i) (hno:∀ e ∈ K.ix,e.2.1.sec≠i) :
  Inv kl (F.dropped i x) { K with secs:=K.secs.set i (dropS F x) }:=by
 have hi:i < F.n:=by have:=ah hx; rw [h.wl] at this; exact this
 have hin:=sec_in (z:=F.z) hi
 have hbl:=h.bl
 have hz:=h.gz
 have hp1:(F.prog (i*F.z+9) [0]).b.length=F.b.length:=fm (by show _+1≤_; omega)
 have e1:(F.dropped i x).n=F.n∧(F.dropped i x).z=F.z∧(F.dropped i x).lim=F.lim:=by unfold Fl.dropped; split <;> exact ⟨rfl,rfl,rfl⟩
 obtain ⟨e1,e2,e3⟩:=e1
 have hbd:(F.dropped i x).b.length=F.b.length:=by
  unfold Fl.dropped
  split
  ·show (eraseB _ _).length=_
   unfold eraseB
   rw [fm (by rw [bg,hp1]; show i*F.z+F.z≤_; omega),hp1]
  ·exact hp1
 have hwd:(F.dropped i x).w.length=F.n:=by
  unfold Fl.dropped
  split
  ·show (F.w.set _ _).length=_
   rw [av]; exact h.wl
  ·exact h.wl
 have hget:∀ j,(j < i*F.z∨i*F.z+F.z≤j)→(F.dropped i x).b[j]? = F.b[j]?:=fun j hj=>by
  unfold Fl.dropped
  have hp:(F.prog (i*F.z+9) [0]).b[j]? = F.b[j]?:=prog1_get (by omega) (by omega)
  split
  ·rw [erase_get (by rw [hp1]; show i*F.z+F.z≤_; omega),if_neg (by show ¬ (i*F.z≤j∧j < i*F.z+F.z); omega)]
   exact hp
  ·exact hp
 have hwk:∀ k,k≠i→(F.dropped i x).w[k]? = F.w[k]?:=fun k hk=>by
  unfold Fl.dropped
  split
  ·show (F.w.set i _)[k]? = _
   rw [aq (fun e=>hk e.symm)]
  ·rfl
 have hlk:∀ k,k≠i→(F.dropped i x).look k=F.look k:=fun k hk=>look_congr e2 (fun j hj=>hget _ (sec_apart hk hj)) (hwk k hk)
 have hli:(F.dropped i x).look i=dropS F x:=by
  unfold dropS
  by_cases c:x < F.lim
  ·have hd:F.dropped i x=(F.prog (i*F.z+9) [0]).erase i:=if_pos c
   have hw:(F.dropped i x).w[i]? = some (x+1):=by
    rw [hd]
    show (F.w.set i ((F.w[i]?).getD 0+1))[i]? = _
    rw [hx]
    exact db (ah hx)
   unfold Fl.look
   rw [if_pos c,hw,df,lookB_blank]
   ·rfl
   ·intro j hj
    have hj:j < F.z:=by
     unfold Fl.sec at hj
     rw [dg,e2] at hj
     omega
    rw [Fl.sec_get (by rw [e2]; exact hj),e2,hd,erase_get (by rw [hp1]; show i*F.z+F.z≤_; omega),if_pos (by show i*F.z≤_∧_ < i*F.z+F.z; omega)]
  ·have hd:F.dropped i x=F.prog (i*F.z+9) [0]:=if_neg c
   have hw:(F.dropped i x).w[i]? = some x:=by rw [hd]; exact hx
   have h9:((F.dropped i x).sec i)[9]? = some 0:=by
    rw [Fl.sec_get (by rw [e2]; omega),e2,hd]
    show (spliceB F.b (i*F.z+9) [0])[i*F.z+9]? = _
    rw [jd (by show _+1≤_; omega),if_neg (by omega),if_pos (by show _ < _+1; omega),Nat.sub_self]; rfl
   unfold Fl.look
   rw [if_neg c,hw,df]
   unfold lookB
   have g1:¬ blankB ((F.dropped i x).sec i)=true:=fun e=>by
    have:=blank_get e (ah h9)
    rw [h9] at this; cases this
   have g2:¬ (parseE ((F.dropped i x).sec i)=0∧((F.dropped i x).sec i)[8]? = some 0∧((F.dropped i x).sec i)[9]? = some 255):=fun e=>by
    rw [h9] at e
    exact absurd e.2.2 (by decide)
   rw [if_neg g1,if_neg g2]
 refine ⟨by rw [e2]; exact hz,by rw [hbd,e1,e2]; exact hbl,by rw [hwd,e1],by rw [e1]; show (K.secs.set _ _).length=_; rw [av]; exact h.ln,fun k hk=>?_,h.dn,?_,h.ix,fun e he=>?_,fun k hk=>?_⟩
 ·rw [e1] at hk
  show (K.secs.set i _)[k]? = _
  by_cases c:k=i
  ·subst c
   rw [hli]
   exact db (by rw [h.ln]; exact hk)
  ·rw [aq (fun e=>c e.symm),hlk k c]
   exact h.lk k hk
 ·rcases h.hd with e | ⟨y,b1,b2,b3,b4,b5,b6,b7⟩
  ·exact .inl e
  ·have hy:y≠i:=fun e=>hh (by rw [b1,e])
   refine .inr ⟨y,b1,by rw [e1]; exact b2,by rw [hlk y hy]; exact b3,b4,by rw [e2]; exact b5,b6,fun j hj1 hj2=>?_⟩
   rw [e2] at hj2 ⊢
   rw [hget _ (sec_apart hy hj2)]
   exact b7 j hj1 hj2
 ·obtain ⟨b1,b2,b3,b4⟩:=h.en e he
  exact ⟨by rw [e1]; exact b1,by rw [hlk _ (hno e he)]; exact b2,b3,b4⟩
 ·rw [e2]
  exact h.sz k hk
theorem take_cat {a b:Bs} {n:Nat} (h:a.length=n):(a++b).take n=a:=by rw [← h]; simp
theorem drop_cat {a b:Bs} {n:Nat} (h:a.length=n):(a++b).drop n=b:=by rw [← h]; simp
theorem lookB_open {l:Bs} {seq er:Nat} (h:l.take 9=headB seq++[0]) (h9:l[9]? = some 255) (hs:seq < 4294967296):lookB l er=⟨2,seq,er⟩:=by
 have h':l.take 9=(headB seq++[0]).take 9:=by rw [dm (l:=headB seq++[0]) (by rw [ap,g8]; decide)]; exact h
 have h8:l[8]? = some 0:=by
  rw [get_take_eq h' (j:=8) (by decide),au (by rw [g8]; decide),g8]; rfl
 have hb:¬ blankB l=true:=fun e=>by
  have:=blank_get e (ah h8)
  rw [h8] at this; cases this
 have hA:=len_headA seq
 have t6:l.take 6=headA seq:=by
  rw [take_eq h' (m:=6) (by decide)]
  unfold headB
  rw [aw]
  exact take_cat hA
 have t2:l.take 2=[67,66]:=by
  rw [take_eq h' (m:=2) (by decide)]
  unfold headB headA
  rw [aw,aw]
  exact take_cat rfl
 have d6:(l.drop 6).take 2=putB (nat16 (headA seq)) 2:=by
  rw [drop_take_eq h' (a:=6) (k:=2) (by decide)]
  unfold headB
  rw [aw,drop_cat hA]
  exact take_cat (jp _ _)
 have d2:(l.drop 2).take 4=putB seq 4:=by
  rw [drop_take_eq h' (a:=2) (k:=4) (by decide)]
  unfold headB headA
  rw [aw,aw,drop_cat (a:=[67,66]) (n:=2) rfl]
  exact take_cat (jp _ _)
 have hp:parseE l=0:=by
  unfold parseE
  rw [if_pos t2,d6,t6,getB_put,if_pos (Nat.mod_eq_of_lt (nat16_eq _).2)]
 unfold lookB
 rw [if_neg hb,if_pos ⟨hp,h8,h9⟩,d2,getB_put,Nat.mod_eq_of_lt hs]
theorem least_m (m:Sec→Bool) (k:Sec→Int) (L:List Sec):∀ i,(least m k L i).2=true→∃ x,L[(least m k L i).1]? = some x∧m x=true
 | 0,h=>by simp [least] at h
 | i+1,h=>by
  cases hx:L[i]? with
  | none =>
   have e:least m k L (i+1)=least m k L i:=by simp only [least,hx]
   rw [e] at h ⊢
   exact least_m m k L i h
  | some x =>
   by_cases c:(m x && (!(least m k L i).2 || (L[(least m k L i).1]?).any fun y=>decide (k x < k y)))=true
   ·have e:least m k L (i+1)=(i,true):=by simp only [least,hx]; rw [if_pos c]
    rw [e]
    refine ⟨x,hx,?_⟩
    simp only [az] at c
    exact c.1
   ·have e:least m k L (i+1)=least m k L i:=by simp only [least,hx]; rw [if_neg c]
    rw [e] at h ⊢
    exact least_m m k L i h
theorem opened_get {F:Fl} {i s j:Nat} (hi:i < F.n) (hbl:F.b.length=F.n*F.z) (hz:12≤F.z) :
  (F.opened i s).b.length=F.b.length∧((j < i*F.z∨i*F.z+F.z≤j)→(F.opened i s).b[j]? = F.b[j]?)∧(9≤j→j < F.z→(F.opened i s).b[i*F.z+j]? = some 255)∧(j < 9→(F.opened i s).b[i*F.z+j]? = (headB s++[0])[j]?):=by
 have hin:=sec_in (z:=F.z) hi
 obtain ⟨c1,c2,c3⟩:=clear_eq F i
 have hcb:(F.clear i).b.length=F.b.length∧∀ j,(F.clear i).b[j]? = if i*F.z≤j∧j < i*F.z+F.z then some 255 else F.b[j]?:=by
  unfold Fl.clear
  split
  ·rename_i hb
   refine ⟨rfl,fun j=>?_⟩
   split
   ·rename_i hj
    obtain ⟨m,rfl⟩:=Nat.exists_eq_add_of_le hj.1
    have hm:m < F.z:=by omega
    have hl:(F.sec i).length=F.z:=by unfold Fl.sec; rw [dg,fh]; omega
    rw [← Fl.sec_get hm]
    exact blank_get hb (by rw [hl]; exact hm)
   ·rfl
  ·refine ⟨?_,fun j=>erase_get (by omega)⟩
   show (eraseB _ _).length=_
   unfold eraseB
   rw [fm (by rw [bg]; omega)]
 obtain ⟨hc1,hc2⟩:=hcb
 have l1:(spliceB (F.clear i).b (i*F.z) (headB s)).length=F.b.length:=by rw [fm (by rw [hc1,g8]; omega),hc1]
 have l2:(F.opened i s).b.length=F.b.length:=by
  show (spliceB (spliceB (F.clear i).b (i*F.z) (headB s)) (i*F.z+8) [0]).length=_
  rw [fm (by rw [l1]; show _+1≤_; omega),l1]
 have hg:∀ j,(F.opened i s).b[j]? = if j < i*F.z+8 then (if j < i*F.z then (F.clear i).b[j]? else if j < i*F.z+8 then (headB s)[j - i*F.z]? else (F.clear i).b[j]?) else if j < i*F.z+9 then ([0]:Bs)[j - (i*F.z+8)]? else (if j < i*F.z then (F.clear i).b[j]? else if j < i*F.z+8 then (headB s)[j - i*F.z]? else (F.clear i).b[j]?):=fun j=>by
  show (spliceB (spliceB (F.clear i).b (i*F.z) (headB s)) (i*F.z+8) [0])[j]? = _
  rw [jd (by rw [l1]; show _+1≤_; omega),jd (by rw [hc1,g8]; omega),g8]
  rfl
 refine ⟨l2,fun hj=>?_,fun h1 h2=>?_,fun h1=>?_⟩
 ·rw [hg]
  rcases hj with hj | hj
  ·rw [if_pos (by omega),if_pos hj,hc2,if_neg (by omega)]
  ·rw [if_neg (by omega),if_neg (by omega),if_neg (by omega),if_neg (by omega),hc2,if_neg (by omega)]
 ·rw [hg,if_neg (by omega),if_neg (by omega),if_neg (by omega),if_neg (by omega),hc2,if_pos (by omega)]
 ·rw [hg]
  by_cases c:j < 8
  ·rw [if_pos (by omega),if_neg (by omega),if_pos (by omega),ag (by rw [g8]; exact c),gg]
  ·obtain rfl:j=8:=by omega
   rw [if_neg (by omega),if_pos (by omega),Nat.sub_self,au (by rw [g8]; decide),g8]
theorem open_inv {kl:List Bs} {F:Fl} {K:StU} (h:Inv kl F K) {i x':Nat} (hn:nextS F K=(i,true)) (hq:K.seq+1 < 4294967296) (hx':(F.clear i).w[i]? = some x') :
  Inv kl (F.opened i (K.seq+1)) { K with secs:=K.secs.set i ⟨2,(K.seq:Int)+1,x'⟩,head:=i,at_:=12,txn:=0,seq:=K.seq+1 }:=by
 obtain ⟨y,hy,hm⟩:∃ y,K.secs[i]? = some y∧opn F.lim y=true:=by
  have:=least_m (opn F.lim) Sec.er K.secs K.secs.length (by unfold nextS at hn; rw [hn])
  unfold nextS at hn
  rw [hn] at this
  exact this
 have hi:i < F.n:=by rw [← h.ln]; exact ah hy
 have hyl:y=F.look i:=by have:=h.lk i hi; rw [hy] at this; exact bz this
 have hnu:(F.look i).st≠2:=fun e=>by
  rw [hyl] at hm
  unfold opn at hm
  rw [e] at hm
  simp at hm
 have hz:=h.gz
 obtain ⟨c1,c2,c3⟩:=clear_eq F i
 have e1:(F.opened i (K.seq+1)).n=F.n:=c1
 have e2:(F.opened i (K.seq+1)).z=F.z:=c2
 have hg:=fun j=>opened_get (s:=K.seq+1) (j:=j) hi h.bl hz
 have hwk:∀ k,k≠i→(F.opened i (K.seq+1)).w[k]? = F.w[k]?:=fun k hk=>by
  show (F.clear i).w[k]? = _
  unfold Fl.clear
  split
  ·rfl
  ·show (F.w.set i _)[k]? = _
   rw [aq (fun e=>hk e.symm)]
 have hwl:(F.opened i (K.seq+1)).w.length=F.n:=by
  show (F.clear i).w.length=_
  unfold Fl.clear
  split
  ·exact h.wl
  ·show (F.w.set i _).length=_
   rw [av]; exact h.wl
 have hlk:∀ k,k≠i→(F.opened i (K.seq+1)).look k=F.look k:=fun k hk=>look_congr e2 (fun j hj=>(hg _).2.1 (sec_apart hk hj)) (hwk k hk)
 have hli:(F.opened i (K.seq+1)).look i=⟨2,(K.seq:Int)+1,x'⟩:=by
  have hwi:(F.opened i (K.seq+1)).w[i]? = some x':=hx'
  unfold Fl.look
  rw [hwi,df,lookB_open (seq:=K.seq+1) ?_ ?_ hq]
  ·rfl
  ·refine gu fun j=>?_
   rw [dp]
   split
   ·rw [Fl.sec_get (by rw [e2]; omega),e2]
    exact (hg j).2.2.2 (by assumption)
   ·rw [bp]
    rw [ap,g8]
    show 9≤j
    omega
  ·rw [Fl.sec_get (by rw [e2]; omega),e2]
   exact (hg 9).2.2.1 (by decide) (by omega)
 have hno:∀ e ∈ K.ix,e.2.1.sec≠i:=fun e he c=>hnu (by rw [← c]; exact (h.en e he).2.1)
 refine ⟨by rw [e2]; exact hz,by rw [(hg 0).1,e1,e2]; exact h.bl,by rw [hwl,e1],by rw [e1]; show (K.secs.set _ _).length=_; rw [av]; exact h.ln,fun k hk=>?_,h.dn,.inr ⟨i,rfl,by rw [e1]; exact hi,by rw [hli],ai _,by rw [e2]; exact hz,eo _,fun j hj1 hj2=>?_⟩,h.ix,fun e he=>?_,fun k hk=>?_⟩
 ·rw [e1] at hk
  show (K.secs.set i _)[k]? = _
  by_cases c:k=i
  ·subst c
   rw [hli]
   exact db (by rw [h.ln]; exact hk)
  ·rw [aq (fun e=>c e.symm),hlk k c]
   exact h.lk k hk
 ·rw [e2] at hj2 ⊢
  have hj1:12≤j:=hj1
  exact (hg j).2.2.1 (by omega) hj2
 ·obtain ⟨b1,b2,b3,b4⟩:=h.en e he
  exact ⟨by rw [e1]; exact b1,by rw [hlk _ (hno e he)]; exact b2,b3,b4⟩
 ·have hki:k≠i:=fun c=>hk (secSum_zero fun e he=>by rw [c]; exact hno e he)
  have:=h.sz k hk
  have hc:¬ ((i:Nat):Int)=(k:Int):=by omega
  show _≤if ((i:Nat):Int)=(k:Int) then 12 else (F.opened i (K.seq+1)).z
  rw [if_neg hc,e2]
  have hk':secSum k K.ix+28≤if K.head=(k:Int) then K.at_ else F.z:=this
  show secSum k K.ix+28≤F.z
  split at hk'
  ·rename_i c
   rcases h.hd with e | ⟨y,b1,b2,b3,b4,b5,b6,b7⟩
   ·omega
   ·omega
  ·exact hk'
theorem none_inv {kl:List Bs} {F:Fl} {K:StU} (h:Inv kl F K):Inv kl F { K with head:=-1 } :=
 ⟨h.gz,h.bl,h.wl,h.ln,h.lk,h.dn,.inl rfl,h.ix,h.en,fun i hi=>by
  have:=h.sz i hi
  have hc:¬ (-1:Int)=(i:Int):=by omega
  show _≤if (-1:Int)=(i:Int) then K.at_ else F.z
  rw [if_neg hc]
  have hk':secSum i K.ix+28≤if K.head=(i:Int) then K.at_ else F.z:=this
  show secSum i K.ix+28≤F.z
  split at hk'
  ·rcases h.hd with e | ⟨y,b1,b2,b3,b4,b5,b6,b7⟩
   ·omega
   ·omega
  ·exact hk'⟩
end Go.Abs.AbsBlb

namespace Go.Abs.AbsBlb
open Go.Abs.Short
structure SO (kl:List Bs) (H:List AObj) (I:SI) (F:Fl) (K:StU):Prop where
 a:StA H I F K
 v:Inv kl F K
structure FlE (F F':Fl):Prop where
 n:F'.n=F.n
 z:F'.z=F.z
 l:F'.lim=F.lim
theorem FlE.refl (F:Fl):FlE F F:=⟨rfl,rfl,rfl⟩
theorem FlE.trans {F G H:Fl} (h:FlE F G) (k:FlE G H):FlE F H:=⟨k.n.trans h.n,k.z.trans h.z,k.l.trans h.l⟩
section
variable {kl:List Bs} {H:List AObj} {b:Nat} {I:SI} {F:Fl} {K:StU}
theorem SO.wex (h:SO kl H I F K) {i:Nat} (hi:i < F.n):∃ x,F.w[i]? = some x∧(F.look i).er=(x:Int):=by
 obtain ⟨x,hx⟩:∃ x,F.w[i]? = some x:=⟨_,aj (by rw [h.v.wl]; exact hi)⟩
 exact ⟨x,hx,by rw [look_er,hx]; rfl⟩
theorem q598 (h:SO kl H I F K) (hb:I.lo b):(((nextS F K).2=false∨K.seq=4294967295)∧∀ w,xCall T 598 [.ptr (some (I.s,0))] ⟨H,b,w⟩=some (.int .i64 10,⟨H,b,w⟩)) ∨
  (∃ H' F' K',∃ nx:Nat→Nat,StF I H H'∧SO kl H' I F' K'∧FlE F F'∧K'.ix=K.ix∧K'.at_=12∧(∃ i:Nat,K'.head=i∧i < F.n∧(F.look i).st≠2)∧(∀ i,i < F.n→(F.look i).st=2→(F'.look i).st=2)∧(∀ w,nx w≤I.hi∧min w b≤nx w) ∧
   ∀ w,xCall T 598 [.ptr (some (I.s,0))] ⟨H,b,w⟩=some (.int .i64 0,⟨H',b,nx w⟩)):=by
 by_cases c:(nextS F K).2=false∨K.seq=4294967295
 ·exact .inl ⟨c,fun w=>p598n h.a c⟩
 ·have c1:(nextS F K).2=true:=by cases hq:(nextS F K).2 with
   | true=>rfl
   | false=>exact absurd (.inl hq) c
  have c2:K.seq≠4294967295:=fun e=>c (.inr e)
  have hsb:=h.a.sb
  obtain ⟨i,hi⟩:∃ i,nextS F K=(i,true):=⟨(nextS F K).1,by rw [← c1]⟩
  obtain ⟨y,hy,hm⟩:∃ y,K.secs[i]? = some y∧opn F.lim y=true:=by
   have:=least_m (opn F.lim) Sec.er K.secs K.secs.length (by unfold nextS at hi; rw [hi])
   unfold nextS at hi
   rw [hi] at this
   exact this
  have hin:i < F.n:=by rw [← h.v.ln]; exact ah hy
  have hyl:y=F.look i:=by have:=h.v.lk i hin; rw [hy] at this; exact bz this
  obtain ⟨x,hx,he⟩:=h.wex hin
  have hst:(F.look i).st=0∨((F.look i).st=1∧x < F.lim):=by
   rw [hyl] at hm
   unfold opn at hm
   rw [he] at hm
   simp only [cd,az,decide_eq_true_eq] at hm
   rcases hm with hm | ⟨hm,hl⟩
   ·exact .inl hm
   ·exact .inr ⟨hm,by omega⟩
  obtain ⟨x',hx'⟩:∃ x',(F.clear i).w[i]? = some x':=by
   refine ⟨_,aj ?_⟩
   unfold Fl.clear
   split
   ·rw [h.v.wl]; exact hin
   ·show i < (F.w.set i _).length
    rw [av,h.v.wl]; exact hin
  obtain ⟨H',nx,k1,k2,k3,k4⟩:=p598 h.a hb h.v.gz hi c2 hx hst hx'
  obtain ⟨d1,d2,d3⟩:=clear_eq F i
  have hnu:(F.look i).st≠2:=by omega
  refine .inr ⟨H',_,_,nx,k1,⟨k2,open_inv h.v hi (by omega) hx'⟩,⟨d1,d2,d3⟩,rfl,rfl,⟨i,rfl,hin,hnu⟩,fun k hk hu=>?_,k3,k4⟩
  have hki:k≠i:=fun e=>hnu (by rw [← e]; exact hu)
  have hv:=open_inv h.v hi (by omega) hx'
  have e1:=hv.lk k (by show k < (F.clear i).n; rw [d1]; exact hk)
  have e2:(K.secs.set i ⟨2,(K.seq:Int)+1,x'⟩)[k]? = some ((F.opened i (K.seq+1)).look k):=e1
  rw [aq (fun e=>hki e.symm),h.v.lk k hk] at e2
  rw [← bz e2]; exact hu
theorem q594 (h:SO kl H I F K) (hb:I.lo b) {i:Nat} (hi:i < F.n) (hh:K.head≠i) (hno:∀ e ∈ K.ix,e.2.1.sec≠i) :
  ∃ H' F' K',∃ nx:Nat→Nat,StF I H H'∧SO kl H' I F' K'∧FlE F F'∧K'.ix=K.ix∧(∀ w,nx w≤I.hi∧min w b≤nx w) ∧
   ∀ w,xCall T 100594 [.ptr (some (I.s,0)),.int .i64 i] ⟨H,b,w⟩=some (.int .i64 0,⟨H',b,nx w⟩):=by
 obtain ⟨x,hx,he⟩:=h.wex hi
 obtain ⟨H',nx,k1,k2,k3,k4⟩:=p594 h.a hb h.v.gz hx
 refine ⟨H',_,_,nx,k1,⟨k2,drop_inv h.v hx hh hno⟩,?_,rfl,k3,k4⟩
 unfold Fl.dropped
 split <;> exact ⟨rfl,rfl,rfl⟩
theorem q577 (h:SO kl H I F K) (hb:I.lo b) (hbN:b≤H.length) {L:List RV} {la:Option (Nat × Nat)} {lc:Option Nat} (hR:Row H 5 RV.cells L la) (hne:L≠[]) (hLn:L.length≤16) (hkl:∀ k ∈ kl,1≤k.length∧k.length≤64)
  (hL:∀ p ∈ L,BlobS I H p.2 p.1.blob∧p.1.key ∈ kl∧p.1.count=0∧(p.1.kind=1∧p.1.blob.length≤4096∨p.1.kind=2∧p.1.blob=[])) {hd:Nat} (hh:K.head=hd) (hfit:K.at_+sizes (L.map Prod.fst)+16≤F.z) :
  ∃ H' F' K',∃ nx:Nat→Nat,StF I H H'∧SO kl H' I F' K'∧FlE F F'∧K'.head=hd∧(∀ e ∈ K'.ix,(e ∈ K.ix∧e.1 ∉ L.map fun p=>p.1.key)∨((e.1 ∈ L.map fun p=>p.1.key)∧e.2.1.sec=hd))∧K'.ix=(wroteK K hd L).ix∧(∀ i,i < F.n→F'.look i=F.look i)∧(∀ w,nx w≤I.hi∧min w b≤nx w) ∧
   ∀ w,xCall T 577 [.ptr (some (I.s,0)),.slice la L.length lc] ⟨H,b,w⟩=some (.int .i64 0,⟨H',b,nx w⟩):=by
 rcases h.v.hd with e | ⟨y,e,hn,hu,h12,haz,htx,hcl⟩
 ·omega
 obtain rfl:y=hd:=by omega
 have hnb:=h.a.fl.nb.2
 have hbl:∀ p ∈ L,p.1.blob.length≤4096:=fun p hp=>by
  rcases (hL p hp).2.2.2 with ⟨-,q⟩ | ⟨-,q⟩
  ·exact q
  ·rw [q]; exact eo _
 obtain ⟨H',nx,k1,k2,k3,k4⟩:=p577 (lc:=lc) h.a hb hbN hR hne hLn (fun p hp=>(hL p hp).1) (t:=K.txn+1) rfl (by omega) (fun p hp=>by
  obtain ⟨-,q2,q3,q4⟩:=hL p hp
  obtain ⟨l1,l2⟩:=hkl _ q2
  unfold RecU.at RecU.right rightB
  rcases q4 with ⟨q4,q5⟩ | ⟨q4,q5⟩
  ·simp [q3,q4,q5,l1,l2]
  ·simp [q3,q4,q5,l1,l2]) hh hfit hcl
 obtain ⟨w1,w2,w3,w4⟩:=write_inv h.v hh (fun p hp=>⟨(hL p hp).2.1,hbl p hp⟩) hfit
 obtain ⟨f1,f2,f3,f4⟩:=wroteF_eq F y K.at_ (K.txn+1) (L.map Prod.fst)
 exact ⟨H',_,_,nx,k1,⟨k2,w1⟩,⟨f1,f2,f3⟩,w2,w3,rfl,w4,k3,k4⟩
end
end Go.Abs.AbsBlb

namespace Go.Abs.AbsBlb
open Go.Abs.Short
def strsO (L:List Bs):AObj:=.cells 1 (L.map AVal.str)
theorem s217 {x:Int} {h:Heap}:xCall T 217 [.int .i64 x] h=some (.bool false,h):=by
 obtain ⟨os,b,w⟩:=h
 simp (disch:=omega) [-getElem?_pos,-getElem?_neg,-List.all_eq_true,qZ,qS,nltT,nltF,iltT,iltF,ileT,nleT,dj,ba t217,code217]
def cmpI (x y:Int):Int:=if x < y then -1 else if y < x then 1 else 0
section
attribute [-simp] getElem?_pos getElem?_neg List.all_eq_true
attribute [local simp] qZ qS nltT nltF iltT iltF ileT nleT dj
theorem s638 {x y:Int} {h:Heap}:xCall T 638 [.int .i64 x,.int .i64 y] h=some (.int .i64 (cmpI x y),h):=by
 obtain ⟨os,b,w⟩:=h
 have h217:=fun x h=>s217 (x:=x) (h:=h)
 unfold cmpI
 by_cases c:x < y
 ·simp (disch:=omega) [ba t638,code638,h217,c]
 ·by_cases d:y < x
  ·simp (disch:=omega) [ba t638,code638,h217,c,d]
  ·simp (disch:=omega) [ba t638,code638,h217,c,d]
theorem s166 {n:Nat} (hn:n≤12) {h:Heap}:∃ k:Int,xCall T 166 [.int .u64 n] h=some (.int .i64 k,h):=by
 obtain ⟨os,b,w⟩:=h
 have hq:∀ m:Nat,m≤12→IntKind.u8.wrap (m:Int)=m:=fun m hm=>by
  have:m=0∨m=1∨m=2∨m=3∨m=4∨m=5∨m=6∨m=7∨m=8∨m=9∨m=10∨m=11∨m=12:=by omega
  rcases this with rfl | rfl | rfl | rfl | rfl | rfl | rfl | rfl | rfl | rfl | rfl | rfl | rfl <;> decide
 have hs:∃ y:UInt8,y.toNat≤4∧([0,1,2,2,3,3,3,3,4,4,4,4,4]:List UInt8)[n]? = some y:=by
  have:n=0∨n=1∨n=2∨n=3∨n=4∨n=5∨n=6∨n=7∨n=8∨n=9∨n=10∨n=11∨n=12:=by omega
  rcases this with rfl | rfl | rfl | rfl | rfl | rfl | rfl | rfl | rfl | rfl | rfl | rfl | rfl <;> exact ⟨_,by decide,rfl⟩
 have hq:=hq n hn
 obtain ⟨y,hy4,hy⟩:=hs
 refine ⟨(y.toNat:Int),?_⟩
 have hg:∀ X:List UInt8,(([0,1,2,2,3,3,3,3,4,4,4,4,4]:List UInt8)++X)[n]? = some y:=fun X=>by rw [ag (ah hy)]; exact hy
 have hgt:([0,1,2,2,3,3,3,3,4,4,4,4,4,4,4,4,5,5,5,5,5,5,5,5,5,5,5,5,5,5,5,5,6,6,6,6,6,6,6,6,6,6,6,6,6,6,6,6,6,6,6,6,6,6,6,6,6,6,6,6,6,6,6,6,7,7,7,7,7,7,7,7,7,7,7,7,7,7,7,7,7,7,7,7,7,7,7,7,7,7,7,7,7,7,7,7,7,7,7,7,7,7,7,7,7,7,7,7,7,7,7,7,7,7,7,7,7,7,7,7,7,7,7,7,7,7,7,7,8,8,8,8,8,8,8,8,8,8,8,8,8,8,8,8,8,8,8,8,8,8,8,8,8,8,8,8,8,8,8,8,8,8,8,8,8,8,8,8,8,8,8,8,8,8,8,8,8,8,8,8,8,8,8,8,8,8,8,8,8,8,8,8,8,8,8,8,8,8,8,8,8,8,8,8,8,8,8,8,8,8,8,8,8,8,8,8,8,8,8,8,8,8,8,8,8,8,8,8,8,8,8,8,8,8,8,8,8,8,8,8,8,8,8,8,8,8,8,8,8,8,8,8,8,8,8,8]:List UInt8)[n]? = some y:=hg _
 generalize hX:([0,1,2,2,3,3,3,3,4,4,4,4,4,4,4,4,5,5,5,5,5,5,5,5,5,5,5,5,5,5,5,5,6,6,6,6,6,6,6,6,6,6,6,6,6,6,6,6,6,6,6,6,6,6,6,6,6,6,6,6,6,6,6,6,7,7,7,7,7,7,7,7,7,7,7,7,7,7,7,7,7,7,7,7,7,7,7,7,7,7,7,7,7,7,7,7,7,7,7,7,7,7,7,7,7,7,7,7,7,7,7,7,7,7,7,7,7,7,7,7,7,7,7,7,7,7,7,7,8,8,8,8,8,8,8,8,8,8,8,8,8,8,8,8,8,8,8,8,8,8,8,8,8,8,8,8,8,8,8,8,8,8,8,8,8,8,8,8,8,8,8,8,8,8,8,8,8,8,8,8,8,8,8,8,8,8,8,8,8,8,8,8,8,8,8,8,8,8,8,8,8,8,8,8,8,8,8,8,8,8,8,8,8,8,8,8,8,8,8,8,8,8,8,8,8,8,8,8,8,8,8,8,8,8,8,8,8,8,8,8,8,8,8,8,8,8,8,8,8,8,8,8,8,8,8,8]:List UInt8)=XX at hgt
 have hxl:n < XX.length:=ah hgt
 have c1:¬ ((4294967296:Int)≤n):=by omega
 have c2:¬ ((65536:Int)≤n):=by omega
 have c3:¬ ((256:Int)≤n):=by omega
 simp (disch:=omega) [ba t166,code166,ba t200,code200,hq,hX,hgt,hxl,c1,c2,c3]
end
section
variable {H:List AObj} {b q n g:Nat} {am cm:List AVal} {f:Bs→Bs→Int} {c:Option Nat}
section
attribute [-simp] getElem?_pos getElem?_neg List.all_eq_true
attribute [local simp] qZ qS nltT nltF iltT iltF ileT nleT dj
theorem l646a (hqb:b≤q) (hql:q < H.length) (hn:n≤1000000)
  (hc:∀ (L:List Bs) (x y:Bs) (w:Nat),xCall T g (am ++ .str x :: .str y :: cm) ⟨H.set q (strsO L),b,w⟩=some (.int .i64 (f x y),⟨H.set q (strsO L),b,w⟩)) {i:Nat} :
  ∀ (j:Nat) (L:List Bs) (w:Nat),j < n→L.length=n→∃ L' w',L'.Perm L∧min w q≤w'∧w'≤w∧∀ {β:Type} (k:AExit→St→Option β),
  xK T (.loop code646L0) ⟨[(0,.val (.slice (some (q,0)) n c)),(1,.val (.int .i64 0)),(2,.val (.int .i64 n)),(3,.val (.func g am cm)),(8,.val (.int .i64 i)),(9,.val (.int .i64 j))],⟨H.set q (strsO L),b,w⟩⟩ (k:=⟨k⟩) =
   k (.exit 2) ⟨[(0,.val (.slice (some (q,0)) n c)),(1,.val (.int .i64 0)),(2,.val (.int .i64 n)),(3,.val (.func g am cm)),(8,.val (.int .i64 i))],⟨H.set q (strsO L'),b,w'⟩⟩
 | 0,L,w,hj,hL=>by
  refine ⟨L,w,.refl _,cr _ _,ai _,fun k=>?_⟩
  rw [b9]
  simp (disch:=omega) [code646L0]
 | j+1,L,w,hj,hL=>by
  obtain ⟨x,hx⟩:∃ x,L[j+1]? = some x:=⟨_,aj (by omega)⟩
  obtain ⟨y,hy⟩:∃ y,L[j]? = some y:=⟨_,aj (by omega)⟩
  have hg:∀ L,(H.set q (strsO L))[q]? = some (.cells 1 (L.map AVal.str)):=fun L=>db hql
  have gx:(L.map AVal.str)[j+1]? = some (.str x):=by rw [bk,hx]; rfl
  have gy:(L.map AVal.str)[j]? = some (.str y):=by rw [bk,hy]; rfl
  have hc':=fun w=>hc L x y w
  have ej:((j+1:Nat):Int)=(j:Int)+1:=by omega
  by_cases d:f x y < 0
  ·let L1:=(L.set (j+1) y).set j x
   have hp:L1.Perm L:=by
    have:=List.set_set_perm (as:=L) (i:=j+1) (j:=j) (by omega) (by omega)
    have e1:L[j+1]=x:=by rw [aj (by omega)] at hx; exact bz hx
    have e2:L[j]=y:=by rw [aj (by omega)] at hy; exact bz hy
    rw [e1,e2] at this
    exact this
   obtain ⟨L',w',p1,p2,p3,p4⟩:=l646a (i:=i) hqb hql hn hc j L1 (min (min w q) q) (by omega) (by rw [hp.length_eq]; exact hL)
   refine ⟨L',w',p1.trans hp,by omega,by omega,fun k=>?_⟩
   rw [b9,← p4 k]
   have hml:(L.map AVal.str).length=n:=by rw [bj]; exact hL
   have hs1:(L.map AVal.str).set (j+1) (.str y)=(L.set (j+1) y).map AVal.str:=by rw [List.map_set]
   have hs2:((L.set (j+1) y).map AVal.str).set j (.str x)=L1.map AVal.str:=by rw [← List.map_set]
   rw [← jv _ (by rw [bj]; omega)] at hs1
   rw [← jv _ (by rw [bj,av]; omega)] at hs2
   have hids:AVal.idsL ((L.set (j+1) y).map AVal.str)=[]:=idsL_none fun v hv=>by
    obtain ⟨z,-,rfl⟩:=cg.1 hv
    simp [AVal.ids]
   have hml1:((L.set (j+1) y).map AVal.str).length=n:=by rw [bj,av]; exact hL
   have hg2:∀ o,(H.set q o)[q]? = some o:=fun o=>db hql
   have hss:∀ o o',(H.set q o).set q o'=H.set q o':=fun o o'=>List.set_set ..
   generalize hM1:L1=M1 at *
   rw [show ∀ M,strsO M = .cells 1 (M.map AVal.str) from fun _=>rfl] at hc' ⊢
   rw [show ∀ M,strsO M = .cells 1 (M.map AVal.str) from fun _=>rfl]
   generalize (L.set (j+1) y).map AVal.str=Y1 at *
   generalize L.map AVal.str=Y at *
   generalize M1.map AVal.str=Y2 at *
   generalize ACode.loop code646L0=LL
   simp (disch:=omega) [-sget,sgetN,sgetH,sgetT,-rdIds,jr,js,im,code646L0,ge,benign,again,AVal.eqb,hg2,hss,gx,gy,hc',hml,hml1,hs1,hs2,hids,ej,d]
  ·refine ⟨L,w,.refl _,cr _ _,ai _,fun k=>?_⟩
   rw [b9]
   have hml:(L.map AVal.str).length=n:=by rw [bj]; exact hL
   rw [show ∀ M,strsO M = .cells 1 (M.map AVal.str) from fun _=>rfl] at hc' ⊢
   have hg2:∀ o,(H.set q o)[q]? = some o:=fun o=>db hql
   generalize L.map AVal.str=Y at *
   generalize ACode.loop code646L0=LL
   simp (disch:=omega) [code646L0,hg2,gx,gy,hc',hml,ej,d]
theorem l646b (hqb:b≤q) (hql:q < H.length) (hn:n≤1000000)
  (hc:∀ (L:List Bs) (x y:Bs) (w:Nat),xCall T g (am ++ .str x :: .str y :: cm) ⟨H.set q (strsO L),b,w⟩=some (.int .i64 (f x y),⟨H.set q (strsO L),b,w⟩)) :
  ∀ (d i:Nat) (L:List Bs) (w:Nat),i+d=n∨(n≤i∧d=0)→L.length=n→∃ L' w',L'.Perm L∧min w q≤w'∧w'≤w∧∀ {β:Type} (k:AExit→St→Option β),
  xK T (.loop code646L1) ⟨[(0,.val (.slice (some (q,0)) n c)),(1,.val (.int .i64 0)),(2,.val (.int .i64 n)),(3,.val (.func g am cm)),(8,.val (.int .i64 i))],⟨H.set q (strsO L),b,w⟩⟩ (k:=⟨k⟩) =
   k (.exit 0) ⟨[],⟨H.set q (strsO L'),b,w'⟩⟩
 | 0,i,L,w,hd,hL=>by
  refine ⟨L,w,.refl _,cr _ _,ai _,fun k=>?_⟩
  have:¬ ((i:Int) < n):=by omega
  rw [b9]
  simp (disch:=omega) [code646L1,this]
 | d+1,i,L,w,hd,hL=>by
  obtain ⟨L1,w1,p1,p2,p3,p4⟩:=l646a (c:=c) hqb hql hn hc (i:=i) i L w (by omega) hL
  obtain ⟨L',w',q1,q2,q3,q4⟩:=l646b hqb hql hn hc d (i+1) L1 w1 (by omega) (by rw [p1.length_eq]; exact hL)
  refine ⟨L',w',q1.trans p1,by omega,by omega,fun k=>?_⟩
  rw [b9,← q4 k]
  have ei:((i+1:Nat):Int)=(i:Int)+1:=by omega
  rw [ei]
  have hlt:(i:Int) < n:=by omega
  have hin:i≤1000000:=by omega
  generalize ACode.loop code646L1=LL
  simp (disch:=omega) [code646L1,p4,hlt]
theorem s628 (hqb:b≤q) (hql:q < H.length) {L:List Bs} (hn:L.length≤12) (h0:L.length=n) (hq:H[q]? = some (strsO L))
  (hc:∀ (L:List Bs) (x y:Bs) (w:Nat),xCall T g (am ++ .str x :: .str y :: cm) ⟨H.set q (strsO L),b,w⟩=some (.int .i64 (f x y),⟨H.set q (strsO L),b,w⟩)) :
  ∃ L',∃ nx:Nat→Nat,L'.Perm L∧(∀ w,min w q≤nx w∧nx w≤w)∧∀ w,xCall T 628 [.slice (some (q,0)) n c,.func g am cm] ⟨H,b,w⟩=some (.tuple [],⟨H.set q (strsO L'),b,nx w⟩):=by
 obtain ⟨L',w',p1,p2,p3,p4⟩:=l646b (c:=c) hqb hql (by omega) hc (n - 1) 1 L H.length (by omega) h0
 have hs:H.set q (strsO L)=H:=set_same hq
 rw [hs] at p4
 simp only [a9] at p4
 have hl:(H.set q (strsO L')).length=H.length:=av
 by_cases hw:w' < H.length
 ·have h646:∀ w,xCall T 646 [.slice (some (q,0)) n c,.int .i64 0,.int .i64 n,.func g am cm] ⟨H,b,w⟩=some (.tuple [],⟨H.set q (strsO L'),b,min w w'⟩):=fun w=>by
   simp (disch:=omega) [ba t646,code646,p4,hw]
  have h637:∀ l w,xCall T 637 [.slice (some (q,0)) n c,.int .i64 0,.int .i64 n,.int .i64 l,.func g am cm] ⟨H,b,w⟩=some (.tuple [],⟨H.set q (strsO L'),b,min w w'⟩):=fun l w=>by
   have hn':(n:Int)≤12:=by omega
   simp (disch:=omega) [ba t637,code637,b9,code637L0,h646,hn',hw]
  obtain ⟨k,hk⟩:=s166 (n:=n) (h:=⟨H,b,H.length⟩) (by omega)
  refine ⟨L',fun w=>min w w',p1,fun w=>by show min w q≤min w w'∧min w w'≤w; omega,fun w=>?_⟩
  have q0:IntKind.u64.wrap (n:Int)=n:=wrapU (by omega)
  simp (disch:=omega) [ba t628,code628,h637,hk,q0,hw]
 ·have h646:∀ w,xCall T 646 [.slice (some (q,0)) n c,.int .i64 0,.int .i64 n,.func g am cm] ⟨H,b,w⟩=some (.tuple [],⟨H,b,w⟩):=fun w=>by
   simp (disch:=omega) [ba t646,code646,p4,hw]
  have h637:∀ l w,xCall T 637 [.slice (some (q,0)) n c,.int .i64 0,.int .i64 n,.int .i64 l,.func g am cm] ⟨H,b,w⟩=some (.tuple [],⟨H,b,w⟩):=fun l w=>by
   have hn':(n:Int)≤12:=by omega
   simp (disch:=omega) [ba t637,code637,b9,code637L0,h646,hn',hw]
  obtain ⟨k,hk⟩:=s166 (n:=n) (h:=⟨H,b,H.length⟩) (by omega)
  refine ⟨L,fun w=>w,.refl _,fun w=>by show min w q≤w∧w≤w; omega,fun w=>?_⟩
  have q0:IntKind.u64.wrap (n:Int)=n:=wrapU (by omega)
  rw [hs]
  simp (disch:=omega) [ba t628,code628,h637,hk,q0,hw]
theorem s628z {a:Option (Nat × Nat)} {g:Nat} {am cm:List AVal} {c:Option Nat} {w:Nat}:xCall T 628 [.slice a 0 c,.func g am cm] ⟨H,b,w⟩=some (.tuple [],⟨H,b,w⟩):=by
 have h646:∀ w,xCall T 646 [.slice a 0 c,.int .i64 0,.int .i64 0,.func g am cm] ⟨H,b,w⟩=some (.tuple [],⟨H,b,w⟩):=fun w=>by
  simp (disch:=omega) [ba t646,code646,b9,code646L1]
 have h637:∀ l w,xCall T 637 [.slice a 0 c,.int .i64 0,.int .i64 0,.int .i64 l,.func g am cm] ⟨H,b,w⟩=some (.tuple [],⟨H,b,w⟩):=fun l w=>by
  simp (disch:=omega) [ba t637,code637,b9,code637L0,h646]
 obtain ⟨k,hk⟩:=s166 (n:=0) (h:=⟨H,b,H.length⟩) (by omega)
 simp only [a9] at hk
 have q0:IntKind.u64.wrap 0=0:=by decide
 simp (disch:=omega) [ba t628,code628,h637,hk,q0]
end
end
end Go.Abs.AbsBlb

namespace Go.Abs
section
variable {E:Env} {T:Nat→Option AFunc}
def CallD (E:Env) (g:Nat) (args:List AVal) (h:Heap) (R:AVal→Heap→Prop):Prop :=
  ∀ f,E.gid f=some g→∀ (μ:MM) (w:World) (args':Array Value),VRels E μ args args'.toList→Rel E μ h w→CallsIn (F0 none) 0 E.P f args' w fun e w'=>∃ v h',R v h'∧Evol h h'∧Ends E μ w v h' e w'
def CodeD (E:Env) (c:ACode) (st:St) (Q:AExit→St→Prop):Prop :=
  ∀ (nt:Nat) (hint:Hint) (code:Code),cCode E nt false hint code=some c→(∀ p ∈ c.rounds,E.rnd p.1=some p.2)→∀ (lo:Nat) (μ0:MM) (w0:World) (ds:List Deferred) (a:Act) (w:World) (Qm:Exit→Act→World→Prop),At E lo nt μ0 w0 ds st.s st.h a w →
    (∀ e st',Q e st'→Evol st.h st'.h→∀ a' w',At E lo nt μ0 w0 ds st'.s st'.h a' w'→Qm e.toX a' w')→code.wpIn (F0 none) 0 E.P Qm a w
theorem CodeD.of_x (hT:Agrees E T) (hm:E.P.follows .mixedOrders=true) {c:ACode} {st st':St} {e:AExit} {Q:AExit→St→Prop} (h:xCode T c st=some (e,st')) (hq:Q e st'):CodeD E c st Q:=by
  intro nt hint code hcc hrd lo μ0 w0 ds a w Qm hat hn
  obtain ⟨n,hn'⟩:=(cj T _ _ _).1 h
  exact code_sound (call_sound hT hm n) (ir T n) hT.gid hm false (fun _=>rfl) n hint code c hcc (fun _=>hrd) st e st' hn' a w Qm hat (hn e st' hq (kj (ir T n) n _ _ _ _ hn'))
theorem CodeD.of_wp (hT:Agrees E T) (hm:E.P.follows .mixedOrders=true) {c:ACode} {st:St} {Q:AExit→St→Prop} (h:Wp T c st Q):CodeD E c st Q:=by
  intro nt hint code hcc hrd lo μ0 w0 ds a w Qm hat hn
  obtain ⟨n,l,h1,_,h3⟩:=h
  exact outs_sound (call_sound hT hm n) (ir T n) hT.gid hm false (fun _=>rfl) n hint code c hcc (fun _=>hrd) st l h1 a w Qm hat fun y hy a' w' hat'=>hn y.1 y.2 (h3 y hy) (outs_evol (ir T n) n _ _ _ h1 y hy) a' w' hat'
theorem CodeD.mono {c:ACode} {st:St} {Q Q':AExit→St→Prop} (h:CodeD E c st Q) (hq:∀ e st',Q e st'→Evol st.h st'.h→Q' e st'):CodeD E c st Q' :=
  fun nt hint code hcc hrd lo μ0 w0 ds a w Qm hat hn=>h nt hint code hcc hrd lo μ0 w0 ds a w Qm hat fun e st' h1 h2=>hn e st' (hq e st' h1 h2) h2
theorem inv_seq {nt:Nat} {hint:Hint} {code:Code} {a b:ACode} (h:cCode E nt false hint code=some (.seq a b)) (hne:∀ d x,a ≠ .next d x):∃ ha hb x y,code = .seq x y∧cCode E nt false ha x=some a∧cCode E nt false hb y=some b:=by
  cases hint with
  | seq ha hb =>
    cases code <;> simp only [cCode,reduceCtorEq] at h
    rename_i x y
    split at h
    · rename_i p q h1 h2; cases h; exact ⟨_,_,_,_,rfl,h1,h2⟩
    · cases h
  | next =>
    obtain ⟨d,y,r,e⟩:=jx h
    cases e
    exact absurd rfl (hne d y)
  | live l a=>simp only [cCode,ae] at h; obtain ⟨_,_,h⟩:=h; cases h
  | after a l=>simp only [cCode,ae] at h; obtain ⟨_,_,h⟩:=h; cases h
  | stuck=>simp only [cCode] at h; cases h
  | leaf=>cases code <;> simp only [cCode] at h <;> cases h
  | reg s l=>cases code <;> simp only [cCode,ae,reduceCtorEq] at h; obtain ⟨_,_,h⟩:=h; cases h
  | cond a b =>
    cases code <;> simp only [cCode,reduceCtorEq] at h
    split at h <;> cases h
  | block a=>cases code <;> simp only [cCode,ae,reduceCtorEq] at h; obtain ⟨_,_,h⟩:=h; cases h
  | loop a=>cases code <;> simp only [cCode,ae,reduceCtorEq] at h; obtain ⟨_,_,h⟩:=h; cases h
  | rangeFunc g c a b =>
    cases code <;> simp only [cCode,reduceCtorEq] at h
    split at h
    · split at h <;> cases h
    · cases h
theorem CodeD.seq {a b:ACode} {st:St} {Q:AExit→St→Prop} (hne:∀ d x,a ≠ .next d x) (h:CodeD E a st fun e st'=>match e with | .normal=>CodeD E b st' Q | e=>Q e st'):CodeD E (.seq a b) st Q:=by
  intro nt hint code hcc hrd lo μ0 w0 ds t w Qm hat hn
  obtain ⟨ha,hb,x,y,rfl,h1,h2⟩:=inv_seq hcc hne
  apply wpIn_seq
  refine h nt ha x h1 (fun p hp=>hrd p (by simp [ACode.rounds,hp])) lo μ0 w0 ds t w _ hat fun e st' hq hev a' w' hat'=>?_
  cases e with
  | normal=>exact hq nt hb y h2 (fun p hp=>hrd p (by simp [ACode.rounds,hp])) lo μ0 w0 ds a' w' Qm hat' fun e2 st2 hq2 hev2=>hn e2 st2 hq2 (hev.trans hev2)
  | exit i=>exact hn _ _ hq hev _ _ hat'
  | ret=>exact hn _ _ hq hev _ _ hat'
theorem inv_block {nt:Nat} {hint:Hint} {code:Code} {id:Nat} {a:ACode} (h:cCode E nt false hint code=some (.block id a)):∃ ha x,code = .block id x∧cCode E nt false ha x=some a:=by
  cases hint with
  | block ha =>
    cases code <;> simp only [cCode,ae,reduceCtorEq] at h
    obtain ⟨_,h1,h⟩:=h; cases h; exact ⟨_,_,rfl,h1⟩
  | next=>obtain ⟨d,y,r,e⟩:=jx h; cases e
  | live l a=>simp only [cCode,ae] at h; obtain ⟨_,_,h⟩:=h; cases h
  | after a l=>simp only [cCode,ae] at h; obtain ⟨_,_,h⟩:=h; cases h
  | stuck=>simp only [cCode] at h; cases h
  | leaf=>cases code <;> simp only [cCode] at h <;> cases h
  | reg s l=>cases code <;> simp only [cCode,ae,reduceCtorEq] at h; obtain ⟨_,_,h⟩:=h; cases h
  | seq a b =>
    cases code <;> simp only [cCode,reduceCtorEq] at h
    split at h <;> cases h
  | cond a b =>
    cases code <;> simp only [cCode,reduceCtorEq] at h
    split at h <;> cases h
  | loop a=>cases code <;> simp only [cCode,ae,reduceCtorEq] at h; obtain ⟨_,_,h⟩:=h; cases h
  | rangeFunc g c a b =>
    cases code <;> simp only [cCode,reduceCtorEq] at h
    split at h
    · split at h <;> cases h
    · cases h
theorem inv_loop {nt:Nat} {hint:Hint} {code:Code} {a:ACode} (h:cCode E nt false hint code=some (.loop a)):∃ ha x,code = .loop x∧cCode E nt false ha x=some a:=by
  cases hint with
  | loop ha =>
    cases code <;> simp only [cCode,ae,reduceCtorEq] at h
    obtain ⟨_,h1,h⟩:=h; cases h; exact ⟨_,_,rfl,h1⟩
  | next=>obtain ⟨d,y,r,e⟩:=jx h; cases e
  | live l a=>simp only [cCode,ae] at h; obtain ⟨_,_,h⟩:=h; cases h
  | after a l=>simp only [cCode,ae] at h; obtain ⟨_,_,h⟩:=h; cases h
  | stuck=>simp only [cCode] at h; cases h
  | leaf=>cases code <;> simp only [cCode] at h <;> cases h
  | reg s l=>cases code <;> simp only [cCode,ae,reduceCtorEq] at h; obtain ⟨_,_,h⟩:=h; cases h
  | seq a b =>
    cases code <;> simp only [cCode,reduceCtorEq] at h
    split at h <;> cases h
  | cond a b =>
    cases code <;> simp only [cCode,reduceCtorEq] at h
    split at h <;> cases h
  | block a=>cases code <;> simp only [cCode,ae,reduceCtorEq] at h; obtain ⟨_,_,h⟩:=h; cases h
  | rangeFunc g c a b =>
    cases code <;> simp only [cCode,reduceCtorEq] at h
    split at h
    · split at h <;> cases h
    · cases h
theorem inv_live {nt:Nat} {hint:Hint} {code:Code} {l:List Nat} {a:ACode} (h:cCode E nt false hint code=some (.live l a)):∃ ha,cCode E nt false ha code=some a:=by
  cases hint with
  | live l a=>simp only [cCode,ae] at h; obtain ⟨_,h1,h⟩:=h; cases h; exact ⟨_,h1⟩
  | next=>obtain ⟨d,y,r,e⟩:=jx h; cases e
  | after a l=>simp only [cCode,ae] at h; obtain ⟨_,_,h⟩:=h; cases h
  | stuck=>simp only [cCode] at h; cases h
  | leaf=>cases code <;> simp only [cCode] at h <;> cases h
  | reg s l=>cases code <;> simp only [cCode,ae,reduceCtorEq] at h; obtain ⟨_,_,h⟩:=h; cases h
  | seq a b =>
    cases code <;> simp only [cCode,reduceCtorEq] at h
    split at h <;> cases h
  | cond a b =>
    cases code <;> simp only [cCode,reduceCtorEq] at h
    split at h <;> cases h
  | block a=>cases code <;> simp only [cCode,ae,reduceCtorEq] at h; obtain ⟨_,_,h⟩:=h; cases h
  | loop a=>cases code <;> simp only [cCode,ae,reduceCtorEq] at h; obtain ⟨_,_,h⟩:=h; cases h
  | rangeFunc g c a b =>
    cases code <;> simp only [cCode,reduceCtorEq] at h
    split at h
    · split at h <;> cases h
    · cases h
theorem inv_after {nt:Nat} {hint:Hint} {code:Code} {l:List Nat} {a:ACode} (h:cCode E nt false hint code=some (.after a l)):∃ ha,cCode E nt false ha code=some a:=by
  cases hint with
  | after a l=>simp only [cCode,ae] at h; obtain ⟨_,h1,h⟩:=h; cases h; exact ⟨_,h1⟩
  | next=>obtain ⟨d,y,r,e⟩:=jx h; cases e
  | live l a=>simp only [cCode,ae] at h; obtain ⟨_,_,h⟩:=h; cases h
  | stuck=>simp only [cCode] at h; cases h
  | leaf=>cases code <;> simp only [cCode] at h <;> cases h
  | reg s l=>cases code <;> simp only [cCode,ae,reduceCtorEq] at h; obtain ⟨_,_,h⟩:=h; cases h
  | seq a b =>
    cases code <;> simp only [cCode,reduceCtorEq] at h
    split at h <;> cases h
  | cond a b =>
    cases code <;> simp only [cCode,reduceCtorEq] at h
    split at h <;> cases h
  | block a=>cases code <;> simp only [cCode,ae,reduceCtorEq] at h; obtain ⟨_,_,h⟩:=h; cases h
  | loop a=>cases code <;> simp only [cCode,ae,reduceCtorEq] at h; obtain ⟨_,_,h⟩:=h; cases h
  | rangeFunc g c a b =>
    cases code <;> simp only [cCode,reduceCtorEq] at h
    split at h
    · split at h <;> cases h
    · cases h
theorem CodeD.block {id:Nat} {c:ACode} {st:St} {Q:AExit→St→Prop} (h:CodeD E c st fun e st'=>Q (blkE id e) st'):CodeD E (.block id c) st Q:=by
  intro nt hint code hcc hrd lo μ0 w0 ds u w Qm hat hn
  obtain ⟨ha,x,rfl,h1⟩:=inv_block hcc
  apply wpIn_block
  refine h nt ha x h1 hrd lo μ0 w0 ds u w _ hat fun e st' hq hev a' w' hat'=>?_
  have:=hn _ _ hq hev a' w' hat'
  cases e with
  | normal=>exact this
  | ret=>exact this
  | exit j =>
    simp only [AExit.toX,Exit.inBlock]
    simp only [blkE] at this
    split
    · rename_i hj; rw [if_pos hj] at this; exact this
    · rename_i hj; rw [if_neg hj] at this; exact this
theorem CodeD.live {l:List Nat} {c:ACode} {st:St} {Q:AExit→St→Prop} (h:CodeD E c ⟨keepK l st.s,st.h⟩ Q):CodeD E (.live l c) st Q:=by
  rw [keepK_eq] at h
  intro nt hint code hcc hrd lo μ0 w0 ds u w Qm hat hn
  obtain ⟨ha,h1⟩:=inv_live hcc
  exact h nt ha code h1 hrd lo μ0 w0 ds u w Qm (hat.keep l) hn
theorem CodeD.after {l:List Nat} {c:ACode} {st:St} {Q:AExit→St→Prop} (h:CodeD E c st fun e st'=>match e with | .normal=>Q .normal ⟨keepK l st'.s,st'.h⟩ | e=>Q e st'):CodeD E (.after c l) st Q:=by
  intro nt hint code hcc hrd lo μ0 w0 ds u w Qm hat hn
  obtain ⟨ha,h1⟩:=inv_after hcc
  refine h nt ha code h1 hrd lo μ0 w0 ds u w _ hat fun e st' hq hev a' w' hat'=>?_
  cases e with
  | normal =>
    simp only at hq
    rw [keepK_eq] at hq
    exact hn _ _ hq hev _ _ (hat'.keep l)
  | exit i=>exact hn _ _ hq hev _ _ hat'
  | ret=>exact hn _ _ hq hev _ _ hat'
theorem CodeD.loop {c:ACode} {Q:AExit→St→Prop} (Inv:Nat→St→Prop) (step:∀ k st,Inv k st→CodeD E c st fun e st'=>match e with | .normal=>∃ j,j < k∧Inv j st' | e=>Q e st') (k:Nat) (st:St) (h0:Inv k st):CodeD E (.loop c) st Q:=by
  intro nt hint code hcc hrd lo μ0 w0 ds u w Qm hat hn
  obtain ⟨ha,x,rfl,h1⟩:=inv_loop hcc
  have key:∀ (n k:Nat) (st1:St) (a:Act) (w:World),k < n→Inv k st1→Evol st.h st1.h→At E lo nt μ0 w0 ds st1.s st1.h a w→Code.roundsIn (F0 none) 0 E.P x Qm n a w:=by
    intro n
    induction n with
    | zero=>intro k st1 a w hk; omega
    | succ n ih =>
      intro k st1 a w hk hi hev hat1
      rw [roundsIn_succ]
      refine step k st1 hi nt ha x h1 hrd lo μ0 w0 ds a w _ hat1 fun e st2 hq hev2 a' w' hat'=>?_
      cases e with
      | normal =>
        obtain ⟨j,hj,hi'⟩:=hq
        exact ih j st2 a' w' (by omega) hi' (hev.trans hev2) hat'
      | exit i=>exact hn _ _ hq (hev.trans hev2) _ _ hat'
      | ret=>exact hn _ _ hq (hev.trans hev2) _ _ hat'
  exact wpIn_loop_rounds (k+1) (key (k+1) k st u w (by omega) h0 (Evol.refl _) hat)
inductive OpsD (E:Env) (T:Nat→Option AFunc) (K:Slots→Heap→Prop):List AOper→Slots→Heap→Prop
  | done {s:Slots} {h:Heap}:K s h→OpsD E T K [] s h
  | op {o:AOper} {r:List AOper} {s s1:Slots} {h h1:Heap}:evOper (xCall T) o s h=some (s1,h1)→OpsD E T K r s1 h1→OpsD E T K (o :: r) s h
  | call {o:AOper} {r:List AOper} {s:Slots} {h:Heap} {g:Nat} {xs:List Opd} {vs:List AVal} {R:AVal→Heap→Prop}:o.guard=none→o.op = .callg g xs→evs s xs=some vs→CallD E g vs h R→(∀ v h',R v h'→OpsD E T K r (setSlot o.dst (.val v) s) h')→OpsD E T K (o :: r) s h
  | callv {o:AOper} {r:List AOper} {s:Slots} {h:Heap} {g:Nat} {x:Opd} {xs:List Opd} {first caps vs:List AVal} {R:AVal→Heap→Prop}:o.guard=none→o.op = .call x xs→x.ev s=some (.func g first caps)→evs s xs=some vs→CallD E g (first++vs++caps) h R→(∀ v h',R v h'→OpsD E T K r (setSlot o.dst (.val v) s) h')→OpsD E T K (o :: r) s h
  | noZero {o:AOper} {r:List AOper} {s:Slots} {h:Heap} {x:Opd} {n:Nat}:o.guard=none→o.op = .ext (.pure (.prim .noZero)) [x]→x.ev s=some (.int .i64 n)→n≤140737488355328 →
      (∀ bs:List UInt8,bs.length=n→OpsD E T K r (setSlot o.dst (.val (.slice (some (h.size,0)) n none)) s) (h.push (.cells 1 (bs.map fun b=>.int .u8 b.toNat))))→OpsD E T K (o :: r) s h
theorem OpsD.ops {K:Slots→Heap→Prop}:∀ {l r:List AOper} {s s1:Slots} {h h1:Heap},evOps (xCall T) l s h=some (s1,h1)→OpsD E T K r s1 h1→OpsD E T K (l++r) s h
  | [],r,s,s1,h,h1,e,k=>by simp only [evOps] at e; cases e; exact k
  | o :: l,r,s,s1,h,h1,e,k=>by
    simp only [evOps] at e
    split at e
    case h_2=>cases e
    rename_i s2 h2 e2
    exact .op e2 (OpsD.ops e k)
section
variable {lo nt:Nat} {μ0:MM} {w0:World} {ds:List Deferred} {s:Slots} {h:Heap} {a:Act} {w:World} {ops:Array Oper} {Q:Exit→Act→World→Prop}
theorem run_soundD (hg:GidOK E) {loc:Bool} {o:Oper} {o':AOper} {g:Nat} {xs:List Opd} {vs:List AVal} {R:AVal→Heap→Prop} (hop:cOper E nt ops loc o=some o') (hcall:o'.op = .callg g xs) (hgd:o'.guard=none) (hvs:evs s xs=some vs) (hcd:CallD E g vs h R)
    (hat:At E lo nt μ0 w0 ds s h a w) {next:Act→World→Prop} (hn:∀ v h',R v h'→Evol h h'→∀ a' w',At E lo nt μ0 w0 ds (setSlot o'.dst (.val v) s) h' a' w'→next a' w') :
    if Region.wanted o (yielded ops a.tmps) then o.wpIn (F0 none) 0 E.P a w next Q else next (a.put o.dst Go.undef) w:=by
  unfold cOper at hop
  split at hop
  case isFalse=>cases hop
  rename_i hh
  simp only [az,cd,dv] at hh
  have hd:∀ t,o.dst=some t→t < nt:=fun t ht=>by have:=hh.1; rw [ht] at this; simpa using this
  split at hop
  case h_2 =>
    exfalso
    split at hop
    case h_2=>cases hop
    cases hop
    cases hgd
  rename_i hg0
  cases hop
  have hw:Region.wanted o (yielded ops a.tmps)=true:=by simp [Region.wanted,hg0]
  rw [if_pos hw]
  simp only at hcall hn
  have hao:cOp E loc o.op=some (.callg g xs):=by
    cases hco:cOp E loc o.op with
    | some ao=>rw [cOpS,hco] at hcall; simpa using hcall
    | none=>rw [cOpS,hco] at hcall; simp at hcall
  obtain ⟨μ,ν,k1,k2,k3,k4,k5,k6⟩:=hat
  have hnd:∀ c,o.op ≠ .defer c:=fun c hc'=>by rw [hc'] at hao; simp [cOp] at hao
  refine ⟨fun _ _=>trivial,?_⟩
  rw [Oper.semAt_eq _ _ _ hnd]
  have hcop:∃ c,o.op = .call c∧cCall E c=some (.callg g xs):=by
    cases ho:o.op with
    | call c=>exact ⟨c,rfl,by rw [ho] at hao; simpa only [cOp] using hao⟩
    | makeFunc fn x1 x2 =>
      rw [ho] at hao
      exfalso
      cases fn <;> simp only [cOp] at hao <;> (try (cases hao; done))
      split at hao <;> cases hao
    | makeMap t hint =>
      rw [ho] at hao
      exfalso
      cases hint with
         | none=>simp [cOp] at hao
         | some y =>
           cases y with
           | const v=>cases v <;> simp only [cOp] at hao <;> first | (cases hao; done) | (split at hao <;> cases hao)
           | _=>simp [cOp] at hao
    | _ =>
      rw [ho] at hao
      exfalso
      simp only [cOp,cBin,cConv,cEq] at hao
      repeat' split at hao
      all_goals first
        | (cases hao; done)
        | (rw [ae] at hao; obtain ⟨_,_,hao⟩:=hao; first | (cases hao; done) | (split at hao <;> cases hao))
  obtain ⟨c,hcop,hcc⟩:=hcop
  unfold cCall at hcc
  split at hcc
  · rename_i f hcal
    split at hcc
    case h_2 =>
      exfalso
      rw [ae] at hcc
      obtain ⟨_,_,hcc⟩:=hcc
      cases hcc
    case h_3=>cases hcc
    rename_i g' as hgf has
    cases hcc
    have hargs:=ie k3 has hvs
    have hrun:(execOp a.eval o).run E.P w = .ok (.enter f (c.args.map a.eval)) w:=by
      have:=ic hg hgf (c.args.map a.eval) w
      simp [execOp,hcop,resolve,hcal,Act.eval,Deferred.ofValue,invoke,this]
    rw [hrun,Oper.uponIn_enter]
    refine ⟨fun hh=>by simp [F0,Fence.wide] at hh,?_⟩
    refine CallsIn.mono (F:=F0 none) (n:=0) (hcd f hgf μ w (c.args.map a.eval) (by simpa using hargs) k2) fun e w' he=>?_
    obtain ⟨v,h',hR,hevol,v',μ',rfl,j1,j2,j3⟩:=he
    refine hn v h' hR hevol _ _ ⟨μ',ν,?_,j3,?_,by rw [kr]; exact k4,by rw [je]; exact k5,b8 k6 j1.size⟩
    · exact k1.trans (j1.weaken (ai _) fun b hb _=>hb.elim) hevol.wmin
    · rw [fz]
      exact ((k3.step j1 fun b _ hb=>hb).setVal (fun y hy=>by rw [k4]; exact hd y hy) j2).congr fun t=>gd _ _ _ _
  · exfalso
    split at hcc
    case h_2=>cases hcc
    cases hcc
  · exfalso
    repeat' split at hcc
    all_goals first
      | (cases hcc; done)
      | (rw [ae] at hcc; obtain ⟨_,_,hcc⟩:=hcc; cases hcc)
  · cases hcc
theorem run_soundV (hg:GidOK E) {loc:Bool} {o:Oper} {o':AOper} {g:Nat} {x:Opd} {xs:List Opd} {first caps vs:List AVal} {R:AVal→Heap→Prop} (hop:cOper E nt ops loc o=some o') (hcall:o'.op = .call x xs) (hgd:o'.guard=none) (hxv:x.ev s=some (.func g first caps)) (hvs:evs s xs=some vs) (hcd:CallD E g (first++vs++caps) h R)
    (hat:At E lo nt μ0 w0 ds s h a w) {next:Act→World→Prop} (hn:∀ v h',R v h'→Evol h h'→∀ a' w',At E lo nt μ0 w0 ds (setSlot o'.dst (.val v) s) h' a' w'→next a' w') :
    if Region.wanted o (yielded ops a.tmps) then o.wpIn (F0 none) 0 E.P a w next Q else next (a.put o.dst Go.undef) w:=by
  unfold cOper at hop
  split at hop
  case isFalse=>cases hop
  rename_i hh
  simp only [az,cd,dv] at hh
  have hd:∀ t,o.dst=some t→t < nt:=fun t ht=>by have:=hh.1; rw [ht] at this; simpa using this
  split at hop
  case h_2 =>
    exfalso
    split at hop
    case h_2=>cases hop
    cases hop
    cases hgd
  rename_i hg0
  cases hop
  have hw:Region.wanted o (yielded ops a.tmps)=true:=by simp [Region.wanted,hg0]
  rw [if_pos hw]
  simp only at hcall hn
  have hao:cOp E loc o.op=some (.call x xs):=by
    cases hco:cOp E loc o.op with
    | some ao=>rw [cOpS,hco] at hcall; simpa using hcall
    | none=>rw [cOpS,hco] at hcall; simp at hcall
  obtain ⟨μ,ν,k1,k2,k3,k4,k5,k6⟩:=hat
  have hnd:∀ c,o.op ≠ .defer c:=fun c hc'=>by rw [hc'] at hao; simp [cOp] at hao
  refine ⟨fun _ _=>trivial,?_⟩
  rw [Oper.semAt_eq _ _ _ hnd]
  have hcop:∃ c,o.op = .call c∧cCall E c=some (.call x xs):=by
    cases ho:o.op with
    | call c=>exact ⟨c,rfl,by rw [ho] at hao; simpa only [cOp] using hao⟩
    | makeFunc fn x1 x2 =>
      rw [ho] at hao
      exfalso
      cases fn <;> simp only [cOp] at hao <;> (try (cases hao; done))
      split at hao <;> cases hao
    | makeMap t hint =>
      rw [ho] at hao
      exfalso
      cases hint with
         | none=>simp [cOp] at hao
         | some y =>
           cases y with
           | const v=>cases v <;> simp only [cOp] at hao <;> first | (cases hao; done) | (split at hao <;> cases hao)
           | _=>simp [cOp] at hao
    | _ =>
      rw [ho] at hao
      exfalso
      simp only [cOp,cBin,cConv,cEq] at hao
      repeat' split at hao
      all_goals first
        | (cases hao; done)
        | (rw [ae] at hao; obtain ⟨_,_,hao⟩:=hao; first | (cases hao; done) | (split at hao <;> cases hao))
  obtain ⟨c,hcop,hcc⟩:=hcop
  unfold cCall at hcc
  split at hcc
  · exfalso
    split at hcc
    case h_2 =>
      rw [ae] at hcc
      obtain ⟨_,_,hcc⟩:=hcc
      cases hcc
    case h_3=>cases hcc
    cases hcc
  · rename_i y hne hcal
    split at hcc
    case h_2=>cases hcc
    rename_i y' as hy has
    cases hcc
    have hargs:=ie k3 has hvs
    have hfv:=bt k3 hy hxv
    simp only [VRel] at hfv
    obtain ⟨fid,f',c',q1,q2,q3,q4⟩:=hfv
    have hrun:(execOp a.eval o).run E.P w = .ok (.enter fid (f'++c.args.map a.eval++c')) w:=by
      have:=ic hg q2 (f'++(c.args.map a.eval++c')) w
      simp [execOp,hcop,resolve,hcal,q1,Deferred.ofValue,invoke,this]
    rw [hrun,Oper.uponIn_enter]
    refine ⟨fun hh=>by simp [F0,Fence.wide] at hh,?_⟩
    refine CallsIn.mono (F:=F0 none) (n:=0) (hcd fid q2 μ w (f'++c.args.map a.eval++c') (by simpa using (q3.append hargs).append q4) k2) fun e w' he=>?_
    obtain ⟨v,h',hR,hevol,v',μ',rfl,j1,j2,j3⟩:=he
    refine hn v h' hR hevol _ _ ⟨μ',ν,?_,j3,?_,by rw [kr]; exact k4,by rw [je]; exact k5,b8 k6 j1.size⟩
    · exact k1.trans (j1.weaken (ai _) fun b hb _=>hb.elim) hevol.wmin
    · rw [fz]
      exact ((k3.step j1 fun b _ hb=>hb).setVal (fun y hy=>by rw [k4]; exact hd y hy) j2).congr fun t=>gd _ _ _ _
  · exfalso
    repeat' split at hcc
    all_goals first
      | (cases hcc; done)
      | (rw [ae] at hcc; obtain ⟨_,_,hcc⟩:=hcc; cases hcc)
  · cases hcc
theorem mnz_find {fn:Func} (h:fn.name = "internal/bytealg.MakeNoZero"):Extern.find fn=some (Extern.BytealgMakeNoZero.makeNoZero fn.params fn.resultTypes):=by
  have h1:Extern.allGenericRows.lookup "internal/bytealg.MakeNoZero" = none:=by kernel_rfl
  have h2:Extern.allTypedRows.lookup "internal/bytealg.MakeNoZero" = some Extern.BytealgMakeNoZero.makeNoZero:=by kernel_rfl
  unfold Extern.find
  simp only [h,h1,h2]
  rfl
theorem mnz_next {fn:Func} (h:fn.name = "internal/bytealg.MakeNoZero") (ho:fn.origin = ""):Extern.findNext fn=none:=by
  have h1:Extern.allNextRows.lookup "internal/bytealg.MakeNoZero" = none:=by kernel_rfl
  have h3:Extern.allNextRows.lookup "" = none:=by kernel_rfl
  unfold Extern.findNext
  simp only [h,ho,h1,h3]
  rfl
theorem digits_list:∀ (n t:Nat) (acc:Array Value),∃ ds:List UInt8,ds.length=n∧(Extern.BytealgMakeNoZero.digits n t acc).toList=acc.toList++ds.map fun b=>.int .u8 b.toNat
  | 0,_,acc=>⟨[],rfl,by simp [Extern.BytealgMakeNoZero.digits]⟩
  | n+1,t,acc=>by
    obtain ⟨ds,h1,h2⟩:=digits_list n (t / 256) (acc.push (.int .u8 (Int.ofNat (t % 256))))
    refine ⟨UInt8.ofNat (t % 256) :: ds,by simp [h1],?_⟩
    rw [Extern.BytealgMakeNoZero.digits,h2]
    have:(UInt8.ofNat (t % 256)).toNat=t % 256:=by simp
    simp [this]
theorem run_mnz {P:Program} (w:World) (ps:Array TypeId) (t e:TypeId) (ht:P.underlying t=some (.slice e)) (n:Nat) (hn:n≤281474976710656) :
    ∃ (cs:Array Value) (ds:List UInt8),(Extern.BytealgMakeNoZero.makeNoZero ps #[t] #[.int .i64 n]).run P w = .ok (.slice (some ⟨w.heap.size,0,none⟩) n cs.size) (w.drew.drew.alloc (.cells cs e))∧n≤cs.size∧(n≤maxLen→cs.size≤maxLen)∧cs.toList=ds.map fun b=>.int .u8 b.toNat:=by
  have hdef:Extern.BytealgMakeNoZero.makeNoZero ps #[t] #[.int .i64 n] =
      (do
        let .slice elem ← underlying t | stuck "bytealg.MakeNoZero: slice type expected"
        if (n:Int) < 0 || (n:Int) > 2 ^ 48 then runtimePanic (.error "makeslice: len out of range")
        let cap ← choose (.appendCap (n:Int).toNat 0 elem)
        askRoom cap
        let bytes ← choose (.extern "internal/bytealg.MakeNoZero.bytes" 0)
        let a ← newRow elem (Extern.BytealgMakeNoZero.digits cap bytes #[])
        pure (.slice (some a) (n:Int).toNat cap)):=rfl
  obtain ⟨ds,h1,h2⟩:=digits_list (grownCap w n 0 e) ((Question.extern "internal/bytealg.MakeNoZero.bytes" 0).cut (w.tape (w.drawn+1) (.extern "internal/bytealg.MakeNoZero.bytes" 0))) #[]
  refine ⟨Extern.BytealgMakeNoZero.digits (grownCap w n 0 e) ((Question.extern "internal/bytealg.MakeNoZero.bytes" 0).cut (w.tape (w.drawn+1) (.extern "internal/bytealg.MakeNoZero.bytes" 0))) #[],ds,?_,?_,?_,by simpa using h2⟩
  · rw [hdef]
    have h1:¬ (n:Int) < 0:=by omega
    have h2:¬ (281474976710656:Int) < (n:Int):=by omega
    simp [run_underlying ht,h1,h2,Question.forced,newRow,Lib.size_digits,grownCap]
  · rw [Lib.size_digits]
    simpa using grownCap_ge w n 0 e
  · intro hm
    rw [Lib.size_digits]
    simpa using grownCap_le_maxLen w n 0 e hm
theorem run_noZero {loc:Bool} {o:Oper} {o':AOper} {x:Opd} {n:Nat} (hop:cOper E nt ops loc o=some o') (hcall:o'.op = .ext (.pure (.prim .noZero)) [x]) (hgd:o'.guard=none) (hx:x.ev s=some (.int .i64 n)) (hn48:n≤140737488355328)
    (hat:At E lo nt μ0 w0 ds s h a w) {next:Act→World→Prop} (hn:∀ bs:List UInt8,bs.length=n→Evol h (h.push (.cells 1 (bs.map fun b=>.int .u8 b.toNat)))→∀ a' w',At E lo nt μ0 w0 ds (setSlot o'.dst (.val (.slice (some (h.size,0)) n none)) s) (h.push (.cells 1 (bs.map fun b=>.int .u8 b.toNat))) a' w'→next a' w') :
    if Region.wanted o (yielded ops a.tmps) then o.wpIn (F0 none) 0 E.P a w next Q else next (a.put o.dst Go.undef) w:=by
  unfold cOper at hop
  split at hop
  case isFalse=>cases hop
  rename_i hh
  simp only [az,cd,dv] at hh
  have hd:∀ t,o.dst=some t→t < nt:=fun t ht=>by have:=hh.1; rw [ht] at this; simpa using this
  split at hop
  case h_2 =>
    exfalso
    split at hop
    case h_2=>cases hop
    cases hop
    cases hgd
  rename_i hg0
  cases hop
  have hw:Region.wanted o (yielded ops a.tmps)=true:=by simp [Region.wanted,hg0]
  rw [if_pos hw]
  simp only at hcall hn
  have hao:cOp E loc o.op=some (.ext (.pure (.prim .noZero)) [x]):=by
    cases hco:cOp E loc o.op with
    | some ao=>rw [cOpS,hco] at hcall; simpa using hcall
    | none=>rw [cOpS,hco] at hcall; simp at hcall
  obtain ⟨μ,ν,k1,k2,k3,k4,k5,k6⟩:=hat
  have hnd:∀ c,o.op ≠ .defer c:=fun c hc'=>by rw [hc'] at hao; simp [cOp] at hao
  refine ⟨fun _ _=>trivial,?_⟩
  rw [Oper.semAt_eq _ _ _ hnd]
  have hcop:∃ c,o.op = .call c∧cCall E c=some (.ext (.pure (.prim .noZero)) [x]):=by
    cases ho:o.op with
    | call c=>exact ⟨c,rfl,by rw [ho] at hao; simpa only [cOp] using hao⟩
    | makeFunc fn x1 x2 =>
      rw [ho] at hao
      exfalso
      cases fn <;> simp only [cOp] at hao <;> (try (cases hao; done))
      split at hao <;> cases hao
    | makeMap t hint =>
      rw [ho] at hao
      exfalso
      cases hint with
         | none=>simp [cOp] at hao
         | some y =>
           cases y with
           | const v=>cases v <;> simp only [cOp] at hao <;> first | (cases hao; done) | (split at hao <;> cases hao)
           | _=>simp [cOp] at hao
    | _ =>
      rw [ho] at hao
      exfalso
      simp only [cOp,cBin,cConv,cEq] at hao
      repeat' split at hao
      all_goals first
        | (cases hao; done)
        | (rw [ae] at hao; obtain ⟨_,_,hao⟩:=hao; first | (cases hao; done) | (split at hao <;> cases hao))
  obtain ⟨c,hcop,hcc⟩:=hcop
  unfold cCall at hcc
  split at hcc
  · rename_i f hcal
    split at hcc
    case h_1=>exfalso; cases hcc
    case h_3=>cases hcc
    rename_i as hgf has
    rw [ae] at hcc
    obtain ⟨k,hk,hcc⟩:=hcc
    cases hcc
    have hvs:evs s [x]=some [.int .i64 n]:=by unfold evs; rw [hx]; rfl
    have hargs:=ie k3 has hvs
    unfold primOf at hk
    split at hk
    case h_2=>cases hk
    rename_i fn hfn
    split at hk
    case isFalse=>cases hk
    rename_i hbo
    split at hk
    · cases hk
    split at hk
    · cases hk
    split at hk
    case isFalse=>cases hk
    rename_i hnm
    obtain ⟨hname,hrow⟩:=hnm
    unfold isRow at hrow
    split at hrow
    case h_2=>cases hrow
    rename_i t ht
    split at hrow
    case h_2=>cases hrow
    rename_i e hte
    simp only [az,decide_eq_true_eq] at hrow
    have hrt:fn.resultTypes = #[t]:=by
      have h1:=hrow.2
      apply Array.ext
      · simpa using h1
      · intro i h2 h3
        simp at h3
        subst h3
        rw [jc (by omega)] at ht
        simpa using bz ht
    have hnn:(fn.name == "runtime.NumGoroutine")=false:=by rw [hname]; decide
    simp only [VRels,VRel] at hargs
    obtain ⟨v1,vr,e1,hv1,hvr⟩:=hargs
    subst hv1
    have hargs:c.args.map a.eval = #[.int .i64 n]:=by
      apply Array.ext'
      simp only [Array.toList_map]
      rw [e1,hvr]
    have hrun:(execOp a.eval o).run E.P w=(callFunc f (c.args.map a.eval)).run E.P w:=by
      simp [execOp,hcop,resolve,hcal,Act.eval,Deferred.ofValue,invoke]
    obtain ⟨cs,dl,q1,q2,q3,q4⟩:=run_mnz (P:=E.P) w fn.params t e hte n (by omega)
    have hmx:cs.size≤9223372036854775807:=q3 (by unfold maxLen; omega)
    have hcl:cs.size=dl.length:=by have:=congrArg List.length q4; simpa using this
    rw [hargs,run_callFunc_extern hfn hnn hbo.1 (mnz_next hname hbo.2) (mnz_find hname),hrt,q1] at hrun
    have hlen:h.size=μ.length:=k2.len.symm
    have hdone:OpDone E lo ν.ds μ w a o.dst ((execOp a.eval o).run E.P w) (.val (.slice (some (h.size,0)) n none)) s (h.push (.cells 1 ((dl.take n).map fun b=>.int .u8 b.toNat))):=by
      rw [hlen]
      refine jg k3 k2 (fun y hy=>by rw [k4]; exact hd y hy) _ (.cells cs e) ⟨w.heap.size,0,cs.size,1⟩ rfl hrun rfl rfl rfl rfl ?_ (slice_new rfl q2 (fun k hk=>by cases hk) (by simp) hmx)
      refine ⟨⟨w.heap.size,0,cs.size,1⟩,cs,e,(0,0),by simp,rfl,by simp,rfl,by simp; omega,fun k v hk=>?_,fun _=>⟨ai _,fun off _=>by simp⟩⟩
      simp only [bk,ae] at hk
      obtain ⟨b,hb',rfl⟩:=hk
      refine ⟨rfl,.int .u8 b.toNat,?_,by simp only [VRel]⟩
      have hb2:dl[k]? = some b:=by
        rw [dp] at hb'
        split at hb'
        · exact hb'
        · cases hb'
      rw [c6,← jf,q4,bk,hb2]; rfl
    obtain ⟨v,w1,μ',ν',d1,d2,d3,d4,d5⟩:=hdone
    have hbl:(dl.take n).length=n:=by rw [dg]; omega
    have hev:=Evol.push h (.cells 1 ((dl.take n).map fun b=>.int .u8 b.toNat))
    have hgo:∀ a' w',At E lo nt μ0 w0 ds (setSlot o.dst (.val (.slice (some (h.size,0)) n none)) s) (h.push (.cells 1 ((dl.take n).map fun b=>.int .u8 b.toNat))) a' w'→next a' w':=hn _ hbl hev
    rcases d2 with d2 | ⟨rfl,d2⟩
    · rw [d2,Oper.uponIn_value]
      refine hgo _ _ ⟨μ',ν',?_,d4,?_,by rw [kr]; exact k4,by rw [je,d1]; exact k5,b8 k6 d3.size⟩
      · exact k1.trans d3 hev.wmin
      · rw [fz] at d5 ⊢
        exact d5.congr fun t=>gd _ _ _ _
    · rw [d2] at hrun
      cases hrun
  · exfalso
    split at hcc
    case h_2=>cases hcc
    cases hcc
  · exfalso
    repeat' split at hcc
    all_goals first
      | (cases hcc; done)
      | (rw [ae] at hcc; obtain ⟨_,_,hcc⟩:=hcc; cases hcc)
  · cases hcc
theorem opD_sound (hT:Agrees E T) (hm:E.P.follows .mixedOrders=true) {loc:Bool} {o:Oper} {o':AOper} {r:List AOper} {K:Slots→Heap→Prop} (hop:cOper E nt ops loc o=some o') (hev:OpsD E T K (o' :: r) s h)
    (hat:At E lo nt μ0 w0 ds s h a w) {next:Act→World→Prop} (hn:∀ s1 h1,OpsD E T K r s1 h1→Evol h h1→∀ a' w',At E lo nt μ0 w0 ds s1 h1 a' w'→next a' w') :
    if Region.wanted o (yielded ops a.tmps) then o.wpIn (F0 none) 0 E.P a w next Q else next (a.put o.dst Go.undef) w:=by
  cases hev with
  | op e k =>
    obtain ⟨n,e⟩:=evOper_lim T e
    exact oper_sound (call_sound hT hm n) (ir T n) hT.gid hop e hat (hn _ _ k (jq (ir T n) e))
  | call h1 h2 h3 h4 h5=>exact run_soundD hT.gid hop h2 h1 h3 h4 hat fun v h' hR=>hn _ _ (h5 v h' hR)
  | callv h1 h2 h3 h4 h5 h6=>exact run_soundV hT.gid hop h2 h1 h3 h4 h5 hat fun v h' hR=>hn _ _ (h6 v h' hR)
  | noZero h1 h2 h3 h4 h5=>exact run_noZero hop h2 h1 h3 h4 hat fun bs hb=>hn _ _ (h5 bs hb)
theorem opsD_sound (hT:Agrees E T) (hm:E.P.follows .mixedOrders=true) {locs:List Nat} {K:Slots→Heap→Prop} {h0:Heap} (hn:∀ s' h',K s' h'→Evol h0 h'→∀ a' w',At E lo nt μ0 w0 ds s' h' a' w'→Q .normal a' w'):∀ (l:List Oper) (i:Nat) (as:List AOper) (s:Slots) (h:Heap) (a:Act) (w:World),
    ops.toList.drop i=l→cOpers E nt ops locs i l=some as→OpsD E T K as s h→Evol h0 h→At E lo nt μ0 w0 ds s h a w→wpOpsIn (F0 none) 0 E.P ops Q (List.range' i l.length) a w
  | [],i,as,s,h,a,w,_,hcs,hev,h0,hat=>by
    simp only [cOpers] at hcs; cases hcs
    cases hev with
    | done k=>exact hn _ _ k h0 _ _ hat
  | o :: l,i,as,s,h,a,w,hd,hcs,hev,h0,hat=>by
    simp only [cOpers] at hcs
    split at hcs
    case h_2=>cases hcs
    rename_i o' as' ho has
    cases hcs
    have hi:ops[i]? = some o:=by
      have:=congrArg (fun l=>l[0]?) hd
      simpa using this
    have hd':ops.toList.drop (i+1)=l:=by
      have:=congrArg List.tail hd
      simpa using this
    simp only [bv,List.range'_succ,wpOpsIn,hi]
    have:=opD_sound (Q:=Q) hT hm ho hev hat fun s1 h1 k e a' w' hat'=>opsD_sound hT hm hn l (i+1) as' s1 h1 a' w' hd' has k (h0.trans e) hat'
    split
    · rename_i hw; rw [if_pos hw] at this; exact this
    · rename_i hw; rw [if_neg hw] at this; exact ⟨fun _ _=>trivial,this⟩
theorem seqD_any (hT:Agrees E T) (hm:E.P.follows .mixedOrders=true) {locs:List Nat} {as:List AOper} (has:cOpers E nt ops locs 0 ops.toList=some as) (hb:edgesBack ops=true) {K:Slots→Heap→Prop} {h0:Heap} :
    ∀ (n p:Nat) (s:Slots) (h:Heap) (listed:Array Bool) (a:Act) (w:World),p+n≤as.length→(∀ x,x≤n→p+x < as.length→waits (befs ops.toList []) (p+x)=true) →
    OpsD E T K ((as.drop p).take n) s h→Evol h0 h→Exact ops listed p→At E lo nt μ0 w0 ds s h a w →
    (∀ s1 h1,K s1 h1→Evol h0 h1→∀ listed' a' w',Exact ops listed' (p+n)→At E lo nt μ0 w0 ds s1 h1 a' w'→wpAnyIn (F0 none) 0 E.P .any ops Q (ops.size - (p+n)) listed' a' w')→wpAnyIn (F0 none) 0 E.P .any ops Q (ops.size - p) listed a w
  | 0,p,s,h,listed,a,w,_,_,hev,h0,hex,hat,hk=>by
    rw [List.take_zero] at hev
    cases hev with
    | done k=>exact hk _ _ k h0 listed a w hex hat
  | n+1,p,s,h,listed,a,w,hpn,hw,hev,h0,hex,hat,hk=>by
    obtain ⟨q1,q2⟩:=iu _ _ _ has
    have hp:p < ops.size:=by rw [q1] at hpn; simp at hpn; omega
    have hop:ops[p]? = some ops[p]:=by simp [hp]
    obtain ⟨o',ho',hco⟩:=q2 p ops[p] (by simp [hp])
    have hdrop:as.drop p=o' :: as.drop (p+1):=by
      have hpl:=ah ho'
      rw [List.drop_eq_getElem_cons hpl]
      congr 1
      rw [aj hpl] at ho'
      exact bz ho'
    rw [hdrop,List.take_succ_cons] at hev
    have hchain:=j9 (ops:=ops) ops.toList [] (by simp) (fun k i hk=>by simp at hk)
    have hblen:=jb ops.toList []
    have hsz:ops.size - p=(ops.size - (p+1))+1:=by omega
    rw [hsz]
    refine ⟨fun hr=>?_,fun i hi=>?_⟩
    · have h3:=all_listed hb hex.1 hr p hp
      rw [hex.2 p hp] at h3
      simp at h3
    · obtain ⟨oi,k1,k2,k3⟩:=ready_mem hex.1 hi
      have his:i < ops.size:=ah (l:=ops.toList) (by simpa using k1)
      have hip:p≤i:=by
        have:=hex.2 i his
        rw [k2] at this
        simpa using this
      have hieq:p=i:=by
        rcases a8 p i with h4 | h4
        · exfalso
          have hbit:=waits_at (hw 1 (by omega) (by rw [q1]; simp; omega)) (j:=i) (i:=p) (by rw [hblen]; simpa using his) (by omega) (by omega)
          have hl:=ga (hex.down hb) (hchain _ _ hbit) fun o e ho he hbb=>by rw [k1] at ho; cases ho; exact k3 e he hbb
          rw [hex.2 p hp] at hl
          simp at hl
        · omega
      subst hieq
      rw [hop] at k1; cases k1
      refine wpOp_of hop (opD_sound hT hm hco hev hat fun s1 h1 k e a' w' hat'=>?_)
      have e1:p+1+n=p+(n+1):=by omega
      refine seqD_any hT hm has hb n (p+1) s1 h1 _ a' w' (by omega) (fun x hx hl=>?_) k (h0.trans e) hex.next hat' ?_
      · have:=hw (x+1) (by omega) (by omega)
        rwa [show p+1+x=p+(x+1) by omega]
      · rw [e1]; exact hk
end
theorem inv_region {nt:Nat} {hint:Hint} {code:Code} {gs:List Seg} (h:cCode E nt false hint code=some (.region gs)):∃ segs locs id ops draw,code = .region id ops draw∧cRegion E nt segs locs ops draw=some gs:=by
  cases hint with
  | reg s l =>
    cases code <;> simp only [cCode,ae,reduceCtorEq] at h
    obtain ⟨_,h1,h⟩:=h; cases h; exact ⟨_,_,_,_,_,rfl,h1⟩
  | next=>obtain ⟨d,y,r,e⟩:=jx h; cases e
  | live l a=>simp only [cCode,ae] at h; obtain ⟨_,_,h⟩:=h; cases h
  | after a l=>simp only [cCode,ae] at h; obtain ⟨_,_,h⟩:=h; cases h
  | stuck=>simp only [cCode] at h; cases h
  | leaf=>cases code <;> simp only [cCode] at h <;> cases h
  | seq a b =>
    cases code <;> simp only [cCode,reduceCtorEq] at h
    split at h <;> cases h
  | cond a b =>
    cases code <;> simp only [cCode,reduceCtorEq] at h
    split at h <;> cases h
  | block a=>cases code <;> simp only [cCode,ae,reduceCtorEq] at h; obtain ⟨_,_,h⟩:=h; cases h
  | loop a=>cases code <;> simp only [cCode,ae,reduceCtorEq] at h; obtain ⟨_,_,h⟩:=h; cases h
  | rangeFunc g c a b =>
    cases code <;> simp only [cCode,reduceCtorEq] at h
    split at h
    · split at h <;> cases h
    · cases h
theorem CodeD.region (hT:Agrees E T) (hm:E.P.follows .mixedOrders=true) {l:List AOper} {st:St} {Q:AExit→St→Prop} (hl:OpsD E T (fun s h=>Q .normal ⟨s,h⟩) l st.s st.h):CodeD E (.region [⟨false,[],l⟩]) st Q:=by
  intro nt hint code hcc hrd lo μ0 w0 ds a w Qm hat hn
  obtain ⟨segs,locs,id,ops,draw,rfl,hcr⟩:=inv_region hcc
  unfold cRegion at hcr
  split at hcr
  case h_2=>cases hcr
  rename_i as has
  split at hcr
  · rename_i hd
    subst hd
    split at hcr
    case isFalse=>cases hcr
    rename_i hh
    simp only [az] at hh
    apply wpIn_region_any hm
    have hat':At E lo nt μ0 w0 ds st.s st.h a { w with drawn:=w.drawn+1 }:=by
      obtain ⟨μ,ν,k1,k2,k3,k4,k5,k6⟩:=hat
      exact ⟨μ,ν,k1.heap rfl rfl rfl rfl,k2.same rfl rfl rfl,k3.heap rfl,k4,k5,k6⟩
    obtain ⟨q1,_⟩:=iu _ _ _ has
    simp only [ep] at q1
    cases segs with
    | nil =>
      unfold splitSegs at hcr
      split at hcr
      · cases hcr
      · cases hcr
      · rename_i e _; cases e
    | cons x r =>
      obtain ⟨q,n⟩:=x
      simp only [splitSegs] at hcr
      split at hcr
      case isFalse=>cases hcr
      rw [ae] at hcr
      obtain ⟨gs',hsp,he⟩:=hcr
      injection he with he1 he2
      injection he1 with e1 e2 e3
      subst e1
      subst he2
      cases r with
      | cons x r =>
        obtain ⟨q',n'⟩:=x
        simp only [splitSegs] at hsp
        split at hsp
        · rw [ae] at hsp
          obtain ⟨_,_,he⟩:=hsp
          cases he
        · cases hsp
      | nil =>
        have hok:=hh.2
        simp only [segsOk,az,decide_eq_true_eq,beq_iff_eq] at hok
        obtain ⟨⟨a2,a3⟩,a5⟩:=hok
        refine seqD_any (h0:=st.h) hT hm has hh.1 n 0 st.s st.h _ a _ (by omega) (fun x hx hlt=>?_) (by simpa [e3] using hl) (Evol.refl _) ⟨by simp,fun i hi=>by simp [hi]⟩ hat' fun s1 h1 k e listed' a' w' hex' hat''=>?_
        · rw [al] at a3
          exact a3 x (ce.2 (by omega))
        · have hp:0+n=ops.size:=by omega
          rw [hp,Nat.sub_self]
          rw [hp] at hex'
          refine ⟨?_,hn _ _ k e _ _ hat''⟩
          apply List.eq_nil_iff_forall_not_mem.2
          intro i hi
          obtain ⟨o,k1,k2,_⟩:=ready_mem hex'.1 hi
          have his:i < ops.size:=ah (l:=ops.toList) (by simpa using k1)
          rw [hex'.2 i his] at k2
          simp [his] at k2
  · rename_i hd
    have:draw=false:=by simpa using hd
    subst this
    cases hcr
    apply wpIn_region
    have:=opsD_sound (Q:=Qm) (h0:=st.h) hT hm (fun s' h' k e a' w' hat'=>hn .normal ⟨s',h'⟩ k e a' w' hat') ops.toList 0 l st.s st.h a w rfl has hl (Evol.refl _) hat
    rw [List.range_eq_range']
    simpa using this
def IsCode (E:Env) (g:Nat) (af:AFunc):Prop:=∀ f,E.gid f=some g→∃ fn hint closed,E.P.funcs[f]? = some fn∧cFunc E closed hint fn=some af∧RndOK E af.body.rounds
theorem CallD.of_code {g:Nat} {af:AFunc} (hF:IsCode E g af) {args:List AVal} {h:Heap} {R:AVal→Heap→Prop} (hl:args.length=af.nargs)
    (hb:CodeD E af.body ⟨enter 0 args,{ h with wmin:=h.size }⟩ fun e st=>∃ v h',funcEnd af h (e,st)=some (v,h')∧R v h'):CallD E g args h R:=by
  intro f hgid μ w args' ha hr
  obtain ⟨fn,hint,closed,hf,hcf,hrd⟩:=hF f hgid
  unfold cFunc at hcf
  split at hcf
  case h_2=>cases hcf
  rename_i c hbody
  split at hcf
  case h_2=>cases hcf
  rename_i ac rs hac hrs
  split at hcf
  case isFalse=>cases hcf
  rename_i hsz
  cases hcf
  simp only at hl
  have hal:args'.size=args.length:=by have:=ha.length; simp at this; exact this.symm
  have hat:At E w.heap.size fn.ntmps μ w [] (enter 0 args) { h with wmin:=h.size } { tmps:=args'++Array.replicate (fn.ntmps - args'.size) undef,defers:=[] } w:=by
    refine ⟨μ,⟨fun _=>0,[]⟩,Step.refl _ _ _ _,hr.same rfl rfl rfl,?_,?_,rfl,ai _⟩
    · have hval:∀ (t:Nat) (x:Slot),sget (enter 0 args) t=some x→∃ v,x = .val v∧args[t]? = some v:=fun t x hx=>by
        rw [enter_get] at hx
        simp at hx
        obtain ⟨v,h1,h2⟩:=hx
        exact ⟨v,h2.symm,h1⟩
      constructor
      · intro t v hv
        obtain ⟨v1,e,h1⟩:=hval t _ hv
        cases e
        obtain ⟨v',h2,h3⟩:=ha.get h1
        refine ⟨v',?_,h3⟩
        have hlt:=ah h1
        rw [Array.getElem?_append_left (by omega)]
        simpa using h2
      · intro t hx; obtain ⟨_,e,_⟩:=hval t _ hx; cases e
      · intro t cs hx; obtain ⟨_,e,_⟩:=hval t _ hx; cases e
      · intro t t' o cs hx; obtain ⟨_,e,_⟩:=hval t _ hx; cases e
      · intro t t' cs cs' _ hx; obtain ⟨_,e,_⟩:=hval t _ hx; cases e
      · intro t cs i m hx; obtain ⟨_,e,_⟩:=hval t _ hx; cases e
      · intro r hr; cases hr
      · intro r hr; cases hr
      · exact ⟨List.nodup_nil,hr.tab.1⟩
    · simp; omega
  refine callsIn_of_wp_marks hf hbody trivial ?_
  refine hb fn.ntmps hint c hac hrd.of w.heap.size μ w [] _ w _ hat fun e st' hq hevol a' w' hat'=>?_
  obtain ⟨v,h',he,hR⟩:=hq
  have hev2:Evol h h':=funcEnd_evol hevol he
  have key:((resultsL st'.s st'.h rs).map fun vs=>finish h (tupled vs) st'.h)=some (v,h')→LeavesInM (F0 none) 0 E.P fn a'.tmps (fun e w'=>∃ v h',R v h'∧Evol h h'∧Ends E μ w v h' e w') a'.defers .returning w':=by
    intro h2
    rw [ae] at h2
    obtain ⟨vs,h2,h3⟩:=h2
    obtain ⟨μ1,ν1,k1,k2,k3,k4,k5,k6⟩:=hat'
    rw [k5,fg]
    refine leaves_marks hrs h2 (fun v' w2 r2 k1' k2'=>?_) ν1.ds ν1.v w' k1 k2 k3
    obtain ⟨μ2,s1,s2,s3⟩:=finish_sound rfl hr k1' k2' r2 hevol
    rw [h3] at s1 s2 s3
    exact ⟨v,h',hR,hev2,v',μ2,rfl,s1,s2,s3⟩
  cases e with
  | normal=>exact key he
  | ret=>exact key he
  | exit id=>simp [funcEnd] at he
theorem CallD.of_x (hT:Agrees E T) (hm:E.P.follows .mixedOrders=true) {g:Nat} {args:List AVal} {h h':Heap} {v:AVal} {R:AVal→Heap→Prop} (e:xCall T g args h=some (v,h')) (hR:R v h'):CallD E g args h R:=by
  intro f hf μ w args' ha hr
  obtain ⟨n,hn⟩:=(ii T _ _ _ _).1 e
  exact CallsIn.mono (F:=F0 none) (n:=0) ((call_sound hT hm n).fn g args h v h' hn f hf μ w args' ha hr) fun e w' he=>⟨v,h',hR,ir T n _ _ _ _ _ hn,he⟩
theorem CallD.mono {g:Nat} {args:List AVal} {h:Heap} {R R':AVal→Heap→Prop} (hd:CallD E g args h R) (hR:∀ v h',R v h'→R' v h'):CallD E g args h R' :=
  fun f hf μ w args' ha hr=>CallsIn.mono (F:=F0 none) (n:=0) (hd f hf μ w args' ha hr) fun _ _ ⟨v,h',h1,h2,h3⟩=>⟨v,h',hR v h' h1,h2,h3⟩
theorem LibOK.of_calls {f g:Nat} {fn:Func} {F:List AVal→Heap→Option (AVal × List (Nat × AObj) × List AObj)} (hf:E.gid f=some g) (name:fn.name ≠ "runtime.NumGoroutine") (body:fn.body.isSome=true)
    (run:∀ args h v ps xs,F args h=some (v,ps,xs)→CallD E g args h fun v' h'=>v'=v∧h'=h.puts ps xs):LibOK E f fn F :=
  ⟨name,body,fun args h v ps xs e μ w args' ha hr=>by
    refine callsIn_wide.1 (CallsIn.mono (F:=F0 none) (n:=0) (run args h v ps xs e f hf μ w args' ha hr) fun e w' ⟨v',h',⟨e1,e2⟩,_,he⟩=>?_)
    rw [← e1,← e2]
    exact he⟩
theorem CodeD.of_k (hT:Agrees E T) (hm:E.P.follows .mixedOrders=true) {c:ACode} {st:St} {Q:AExit→St→Prop} (h:xK T c st (k:=⟨fun e st=>okIf (Q e st)⟩)=some ()):CodeD E c st Q:=by
  unfold xK at h
  cases hx:xCode T c st with
  | none=>rw [hx] at h; cases h
  | some p =>
    rw [hx] at h
    exact CodeD.of_x hT hm hx (okIf_iff.1 h)
end
end Go.Abs

namespace Go.Abs
def repF:List AVal→Heap→Option (AVal × List (Nat × AObj) × List AObj)
 | [.slice (some (p,o)) 1 _,.int .i64 n],h=>match h.get p with
  | some (.cells 1 X)=>match X[o]? with
   | some (.int .u8 255)=>if 0 < n∧n≤8192 then some (.slice (some (h.size,0)) n.toNat (some n.toNat),[],[.cells 1 (List.replicate n.toNat (.int .u8 255))]) else none
   | _=>none
  | _=>none
 | _,_=>none
end Go.Abs

namespace Go.Abs.AbsBlo
open Go.Abs.Short
-- base: AbsBlb
def code88:AFunc:=⟨false,false,2,8,[.tmp 4],
 .seq (R [0,1] [o 4 (.val F)])
 (.seq (R [4] [v 5 0,v 6 1,o 7 (.callg 140 [t 5,t 6]),v 4 7])
 (.live [4] (.ret))),none⟩
def code140:AFunc:=⟨false,false,2,18,[.tmp 4],
 .seq (R [0,1] [o 4 (.val F)])
 (.seq (R [4] [v 5 0,o 6 (.len .str (t 5)),v 7 1,o 8 (.len .str (t 7)),o 9 (.bin .geq (t 6) (t 8)),v 10 9,g 11 10 true (.val (t 0)),g 12 10 true (.val (t 1)),g 13 10 true (.len .str (t 12)),g 14 10 true (.slice .str (t 11) none (some (t 13)) none),g 15 10 true (.val (t 1)),g 16 10 true (.bin .eql (t 14) (t 15)),o 17 (.pick (t 10) (t 16) F),v 4 17])
 (.live [4] (.ret))),none⟩
def code142L0:ACode :=
 .live [0,1,7,8] (.seq (R [0,1,7,8,9] [o 9 (.bin .lss (t 8) (t 7))])
 (.seq (.after (.cond (t 9) (.skip) (.live [] (.exit 0))) [0,1,7,8])
 (.seq (.after (.block 1 (.seq (R [0,1,5,7,8] [v 10 8,v 5 10])
 (.seq (R [0,1,5,7,8,16] [v 11 1,v 12 0,v 13 5,o 14 (.iaddr 1 (t 12) (t 13)),o 15 (.load none (t 14)),o 16 (.call (t 11) [t 15])])
 (.after (.cond (t 16) (.seq (R [4] [v 17 5,v 4 17])
 (.live [4] (.ret))) (.skip)) [0,1,7,8])))) [0,1,7,8])
 (R [0,1,7,8] [o 18 (.bin .add (t 8) (n 1)),v 8 18]))))
def code142:AFunc:=⟨false,false,2,19,[.tmp 4],
 .seq (R [0,1] [o 4 (.val (n 0))])
 (.seq (.seq (R [0,1,7,8] [v 6 0,o 7 (.len .sl (t 6)),o 8 (.val (n 0))])
 (.after (.block 0 (.loop code142L0)) []))
 (.seq (R [4] [o 4 (.val (.const (.int .i64 (-1))))])
 (.live [4] (.ret)))),none⟩
def code480:AFunc:=⟨false,false,2,17,[.tmp 4],
 .seq (R [0,3] [o 3 (.box (t 1)),o 4 (.val (.const (.slice none 0 (some 0))))])
 (.seq (.seq (R [0,3,7] [v 6 0,o 7 (.eqnil .ptr false (t 6) (.const (.ptr none)))])
 (.after (.cond (t 7) (.seq (R [4] [o 4 (.val (.const (.slice none 0 (some 0))))])
 (.live [4] (.ret))) (.skip)) [0,3]))
 (.seq (R [3,5] [v 8 0,o 9 (.nilcheck (t 8)),o 10 (.faddr (t 9) 5),o 11 (.load none (t 10)),o 12 (.callg 496 [t 11]),o 13 (.callg 497 [t 12]),v 5 13])
 (.seq (R [4] [v 14 5,o 15 (.mkfunc 494 [] [t 3]),o 16 (.callg 495 [t 14,t 15]),v 4 16])
 (.live [4] (.ret))))),none⟩
def code494:AFunc:=⟨false,false,2,8,[.tmp 3],
 .seq (R [0,1] [o 3 (.val F)])
 (.seq (R [3] [v 4 0,o 5 (.load none (t 1)),o 6 (.callg 88 [t 4,t 5]),o 7 (.un .not (t 6)),v 3 7])
 (.live [3] (.ret))),none⟩
def code495L0:ACode :=
 .live [0,1,5,6] (.seq (.seq (R [0,1,5,6,19] [v 16 6,v 17 0,o 18 (.len .sl (t 17)),o 19 (.bin .lss (t 16) (t 18))])
 (.after (.cond (t 19) (.skip) (.live [0,5] (.exit 0))) [0,1,5,6]))
 (.seq (.after (.block 1 (.seq (R [0,1,5,6,7] [v 22 0,v 23 6,o 24 (.iaddr 1 (t 22) (t 23)),o 25 (.load none (t 24)),v 7 25])
 (.seq (R [0,1,5,6,7,29] [v 26 1,v 27 7,o 28 (.call (t 26) [t 27]),o 29 (.un .not (t 28))])
 (.after (.cond (t 29) (.seq (R [0,1,5,6] [v 30 0,v 31 5,v 32 7,o 33 (.iaddr 1 (t 30) (t 31)),u (.store 1 (t 33) (t 32))])
 (R [0,1,5,6] [v 34 5,o 35 (.bin .add (t 34) (n 1)),v 5 35])) (.skip)) [0,1,5,6])))) [0,1,5,6])
 (R [0,1,5,6] [v 20 6,o 21 (.bin .add (t 20) (n 1)),v 6 21])))
def code495:AFunc:=⟨false,false,2,42,[.tmp 4],
 .seq (R [0,1] [o 4 (.val (.const (.slice none 0 (some 0))))])
 (.seq (R [0,1,5] [v 8 0,v 9 1,o 10 (.callg 142 [t 8,t 9]),v 5 10])
 (.seq (.seq (R [0,1,5,12] [v 11 5,o 12 (.bin .eql (t 11) (.const (.int .i64 (-1))))])
 (.after (.cond (t 12) (.seq (R [4] [v 13 0,v 4 13])
 (.live [4] (.ret))) (.skip)) [0,1,5]))
 (.seq (.seq (R [0,1,5,6] [v 14 5,o 15 (.bin .add (t 14) (n 1)),v 6 15])
 (.after (.block 0 (.loop code495L0)) [0,5]))
 (.seq (R [0,5] [v 36 0,v 37 5,o 38 (.slice (.sl 1) (t 36) (some (t 37)) none none),u (.ext (.clear 1 [.str []]) [t 38])])
 (.seq (R [4] [v 39 0,v 40 5,o 41 (.slice (.sl 1) (t 39) none (some (t 40)) none),v 4 41])
 (.live [4] (.ret))))))),none⟩
def code496:AFunc:=⟨false,false,1,4,[.tmp 2],
 .seq (R [1] [o 1 (.box (t 0)),o 2 (.val (.const (.nilFunc)))])
 (.seq (R [2] [o 3 (.mkfunc 507 [] [t 1]),v 2 3])
 (.live [2] (.ret))),none⟩
def code497:AFunc:=⟨false,false,1,9,[.tmp 2],
 .seq (R [0] [o 2 (.val (.const (.slice none 0 (some 0))))])
 (.seq (R [3] [v 4 0,o 5 (.callg 506 [t 4]),v 3 5])
 (.seq (R [3] [v 6 3,o 7 (.callg 505 [t 6])])
 (.seq (R [2] [v 8 3,v 2 8])
 (.live [2] (.ret))))),none⟩
def code505:AFunc:=⟨false,false,1,11,[],
 .seq (R [0,2] [v 3 0,o 4 (.len .sl (t 3)),v 2 4])
 (R [] [v 5 0,v 6 2,v 7 2,o 8 (.conv (.int .u64) (t 7)),o 9 (.callg 166 [t 8]),o 10 (.callg 513 [t 5,n 0,t 6,t 9])]),none⟩
def code506:AFunc:=⟨false,false,1,5,[.tmp 2],
 .seq (R [0] [o 2 (.val (.const (.slice none 0 (some 0))))])
 (.seq (R [2] [v 3 0,o 4 (.callg 512 [.const (.slice none 0 (some 0)),t 3]),v 2 4])
 (.live [2] (.ret))),none⟩
def code507L0:ACode :=
 .live [0,5] (.seq (.after (.seq (.next (some 6) (t 5)) (.region [⟨false,[],[o 7 (.extract (t 6) 0)]⟩])) [0,5,7])
 (.seq (.after (.cond (t 7) (.skip) (.live [] (.exit 0))) [0,5])
 (.after (.block 1 (.seq (R [0,3,5] [o 8 (.ext .entry [t 5]),o 9 (.extract (t 8) 0),v 3 9])
 (.seq (R [0,5,13] [v 10 0,v 11 3,o 12 (.call (t 10) [t 11]),o 13 (.un .not (t 12))])
 (.after (.cond (t 13) (.live [] (.ret)) (.skip)) [0,5])))) [0,5])))
def code507:AFunc:=⟨false,true,2,14,[],
 .seq (R [0,5] [o 4 (.load none (t 1)),o 5 (.ext .mkiter [t 4])])
 (.after (.block 0 (.loop code507L0)) []),none⟩
def rcode522a:ACode :=
 R [2,5] [v 5 7]
def rcode522b:ACode :=
 .after (.block 1 (R [] [o 8 (.load none (t 2)),v 9 5,o 10 (.mkslice 1 1 [.str []] [(0,1,t 9)]),o 11 (.append 1 16 (t 8) (t 10)),u (.store 1 (t 2) (t 11))])) []
def round522:ARound:=⟨[7],rcode522a,rcode522b⟩
def code522:AFunc:=⟨false,false,0,0,[],.skip,some (.round round522)⟩
def code512:AFunc:=⟨false,false,2,13,[.tmp 4],
 .seq (R [1,2] [o 2 (.box (t 0)),o 4 (.val (.const (.slice none 0 (some 0))))])
 (.seq (.seq (R [2,6] [v 6 1])
 (.after (.block 0 (.after (.rangeFunc (t 6) 522 [2] [7] rcode522a rcode522b) [2])) [2]))
 (.seq (R [4] [o 12 (.load none (t 2)),v 4 12])
 (.live [4] (.ret)))),none⟩
def code513L0:ACode :=
 .live [0,1,2,3,8,9] (.after (.block 1 (.seq (R [0,1,2,3,8,9,10] [v 19 2,v 20 1,o 21 (.bin .sub (t 19) (t 20)),v 10 21])
 (.seq (.seq (R [0,1,2,3,8,9,10,23] [v 22 10,o 23 (.bin .leq (t 22) (n 12))])
 (.after (.cond (t 23) (.seq (R [] [v 24 0,v 25 1,v 26 2,o 27 (.callg 531 [t 24,t 25,t 26])])
 (.live [] (.ret))) (.skip)) [0,1,2,3,8,9,10]))
 (.seq (.seq (R [0,1,2,3,8,9,10,29] [v 28 3,o 29 (.bin .eql (t 28) (n 0))])
 (.after (.cond (t 29) (.seq (R [] [v 30 0,v 31 1,v 32 2,o 33 (.nextStr F)])
 (.live [] (.ret))) (.skip)) [0,1,2,3,8,9,10]))
 (.seq (.seq (R [0,1,2,3,8,9,10,35] [v 34 8,o 35 (.un .not (t 34))])
 (.after (.cond (t 35) (.seq (R [0,1,2,3,8,9,10] [v 36 0,v 37 1,v 38 2,o 39 (.nextStr F)])
 (R [0,1,2,3,8,9,10] [v 40 3,o 41 (.bin .sub (t 40) (n 1)),v 3 41])) (.skip)) [0,1,2,3,8,9,10]))
 (.seq (R [0,1,2,3,8,9,10,11,12] [v 43 0,v 44 1,v 45 2,o 46 (.nextStr F),v 42 46,o 47 (.extract (t 42) 0),o 48 (.extract (t 42) 1),v 11 47,v 12 48])
 (.seq (.seq (R [0,1,2,3,8,9,10,11,12,50] [v 49 12,o 50 (.bin .eql (t 49) (n 2))])
 (.after (.cond (t 50) (.seq (R [0,1,2,3,8,9,10,11] [v 51 0,v 52 1,v 53 2,o 54 (.nextStr F)])
 (.seq (R [0,1,2,3,8,9,10,11] [v 55 2,o 56 (.bin .sub (t 55) (n 1)),v 57 11,v 58 1,o 59 (.bin .sub (t 57) (t 58)),o 60 (.bin .sub (t 56) (t 59)),v 11 60])
 (R [0,1,2,3,8,9,10,11,12] [o 12 (.val (n 1))]))) (.skip)) [0,1,2,3,8,9,10,11,12]))
 (.seq (.seq (R [0,1,2,3,8,9,10,11,68] [v 61 8,v 62 61,g 63 62 true (.val (t 9)),o 64 (.pick (t 62) (t 63) F),v 65 64,g 66 65 true (.val (t 12)),g 67 65 true (.bin .eql (t 66) (n 1)),o 68 (.pick (t 65) (t 67) F)])
 (.after (.cond (t 68) (.seq (R [0,1,2,3,8,9,10,11,72] [v 69 0,v 70 1,v 71 2,o 72 (.nextStr F)])
 (.after (.cond (t 72) (.live [] (.ret)) (.skip)) [0,1,2,3,8,9,10,11])) (.skip)) [0,1,2,3,8,9,10,11]))
 (.seq (.seq (.after (.region [⟨false,[],[v 73 1,o 74 (.bin .gtr (t 73) (n 0)),v 75 74]⟩,⟨true,[],[g 76 75 true (.val (t 0)),g 77 75 true (.val (t 1)),g 78 75 true (.bin .sub (t 77) (n 1)),g 79 75 true (.iaddr 1 (t 76) (t 78)),g 80 75 true (.load none (t 79)),g 81 75 true (.val (t 0)),g 82 75 true (.val (t 11)),g 83 75 true (.iaddr 1 (t 81) (t 82)),g 84 75 true (.load none (t 83))]⟩,⟨false,[],[g 85 75 true (.callg 525 [t 80,t 84]),g 86 75 true (.un .not (t 85)),o 87 (.pick (t 75) (t 86) F)]⟩]) [0,1,2,3,8,9,10,11,87])
 (.after (.cond (t 87) (.seq (R [0,2,3,8,9,13] [v 88 0,v 89 1,v 90 2,v 91 11,o 92 (.nextStr F),v 13 92])
 (.seq (R [0,1,2,3,8,9] [v 93 13,v 1 93])
 (.live [0,1,2,3,8,9] (.exit 1)))) (.skip)) [0,1,2,3,10,11]))
 (.seq (R [0,1,2,3,10,14,15] [v 95 0,v 96 1,v 97 2,v 98 11,o 99 (.nextStr F),v 94 99,o 100 (.extract (t 94) 0),o 101 (.extract (t 94) 1),v 14 100,v 15 101])
 (.seq (R [0,1,2,3,9,10,14] [v 102 15,v 9 102])
 (.seq (R [0,1,2,3,9,10,14,16,17] [v 103 14,v 104 1,o 105 (.bin .sub (t 103) (t 104)),v 106 2,v 107 14,o 108 (.bin .sub (t 106) (t 107)),v 16 105,v 17 108])
 (.seq (R [0,1,2,3,9,14,16,17,18] [v 109 10,o 110 (.bin .quo (t 109) (n 8)),v 18 110])
 (.seq (R [0,1,2,3,9,14,16,17,18,113] [v 111 16,v 112 17,o 113 (.bin .lss (t 111) (t 112))])
 (.after (.cond (t 113) (.seq (R [0,1,2,3,8,9,14] [v 114 16,v 115 18,o 116 (.bin .geq (t 114) (t 115)),v 8 116])
 (.seq (R [0,2,3,8,9,14] [v 117 0,v 118 1,v 119 14,v 120 3,o 121 (.callg 513 [t 117,t 118,t 119,t 120])])
 (R [0,1,2,3,8,9] [v 122 14,o 123 (.bin .add (t 122) (n 1)),v 1 123]))) (.seq (R [0,1,2,3,8,9,14] [v 124 17,v 125 18,o 126 (.bin .geq (t 124) (t 125)),v 8 126])
 (.seq (R [0,1,3,8,9,14] [v 127 0,v 128 14,o 129 (.bin .add (t 128) (n 1)),v 130 2,v 131 3,o 132 (.callg 513 [t 127,t 129,t 130,t 131])])
 (R [0,1,2,3,8,9] [v 133 14,v 2 133])))) [0,1,2,3,8,9]))))))))))))))) [0,1,2,3,8,9])
def code513:AFunc:=⟨false,false,4,134,[],
 .seq (R [0,1,2,3,8] [o 8 (.val Y)])
 (.seq (R [0,1,2,3,8,9] [o 9 (.val Y)])
 (.after (.block 0 (.loop code513L0)) [])),none⟩
def code525:AFunc:=⟨false,false,2,17,[.tmp 4],
 .seq (R [0,1] [o 4 (.val F)])
 (.seq (R [4] [v 5 0,o 6 (.callg 542 [t 5]),v 7 6,g 8 7 true (.val (t 1)),g 9 7 true (.callg 542 [t 8]),g 10 7 true (.un .not (t 9)),o 11 (.pick (t 7) (t 10) F),v 12 11,g 13 12 false (.val (t 0)),g 14 12 false (.val (t 1)),g 15 12 false (.bin .lss (t 13) (t 14)),o 16 (.pick (t 12) Y (t 15)),v 4 16])
 (.live [4] (.ret))),none⟩
def code531L0:ACode :=
 .live [0,1,2,6,7] (.seq (.seq (.after (.region [⟨true,[],[v 16 7,v 17 1]⟩,⟨false,[],[o 18 (.bin .gtr (t 16) (t 17)),v 19 18]⟩,⟨true,[],[g 20 19 true (.val (t 0)),g 21 19 true (.val (t 7)),g 22 19 true (.iaddr 1 (t 20) (t 21)),g 23 19 true (.load none (t 22)),g 24 19 true (.val (t 0)),g 25 19 true (.val (t 7)),g 26 19 true (.bin .sub (t 25) (n 1)),g 27 19 true (.iaddr 1 (t 24) (t 26)),g 28 19 true (.load none (t 27))]⟩,⟨false,[],[g 29 19 true (.callg 525 [t 23,t 28]),o 30 (.pick (t 19) (t 29) F)]⟩]) [0,1,2,6,7,30])
 (.after (.cond (t 30) (.skip) (.live [0,1,2,6] (.exit 2))) [0,1,2,6,7]))
 (.seq (.after (.block 3 (.after (.region [⟨true,[0,0,0,0,8,0,0,64,224,480,0,0,3072,7168,16355,32739],[v 33 0,v 34 7,v 35 0,v 36 7,o 37 (.bin .sub (t 36) (n 1)),v 38 0,v 39 7,o 40 (.bin .sub (t 39) (n 1)),o 41 (.iaddr 1 (t 38) (t 40)),o 42 (.load none (t 41)),v 43 0,v 44 7,o 45 (.iaddr 1 (t 43) (t 44)),o 46 (.load none (t 45)),o 47 (.iaddr 1 (t 33) (t 34)),u (.ext (.hstore 1) [t 47,t 42])]⟩,⟨false,[],[o 48 (.iaddr 1 (t 35) (t 37)),u (.store 1 (t 48) (t 46))]⟩]) [0,1,2,6,7])) [0,1,2,6,7])
 (R [0,1,2,6,7] [v 31 7,o 32 (.bin .sub (t 31) (n 1)),v 7 32])))
def code531L1:ACode :=
 .live [0,1,2,6] (.seq (.seq (R [0,1,2,6,12] [v 10 6,v 11 2,o 12 (.bin .lss (t 10) (t 11))])
 (.after (.cond (t 12) (.skip) (.live [] (.exit 0))) [0,1,2,6]))
 (.seq (.after (.block 1 (.seq (R [0,1,2,6,7] [v 15 6,v 7 15])
 (.after (.block 2 (.loop code531L0)) [0,1,2,6]))) [0,1,2,6])
 (R [0,1,2,6] [v 13 6,o 14 (.bin .add (t 13) (n 1)),v 6 14])))
def code531:AFunc:=⟨false,false,3,49,[],
 .seq (R [0,1,2,6] [v 8 1,o 9 (.bin .add (t 8) (n 1)),v 6 9])
 (.after (.block 0 (.loop code531L1)) []),none⟩
def code542:AFunc:=⟨false,false,1,6,[.tmp 2],
 .seq (R [0] [o 2 (.val F)])
 (.seq (R [2] [v 3 0,v 4 0,o 5 (.bin .neq (t 3) (t 4)),v 2 5])
 (.live [2] (.ret))),none⟩
def code549:AFunc:=⟨false,false,2,42,[.tmp 4],
 .seq (R [0,1] [o 4 (.val (n 0))])
 (.seq (.seq (R [0,1,9] [v 8 0,o 9 (.callg 561 [t 8])])
 (.after (.cond (t 9) (.seq (R [4] [o 4 (.val (n 5))])
 (.live [4] (.ret))) (.skip)) [0,1]))
 (.seq (R [0,5,6] [v 11 1,o 12 (.callg 581 [t 11]),v 10 12,o 13 (.extract (t 10) 0),o 14 (.extract (t 10) 1),v 5 13,v 6 14])
 (.seq (.after (.block 0 (.seq (R [0,5,6,15] [v 16 6,o 17 (.bin .neq (t 16) (n 0)),v 15 17])
 (.after (.cond (t 15) (.seq (R [4] [v 18 6,v 4 18])
 (.live [4] (.ret))) (.seq (.after (.region [⟨true,[],[v 20 5,o 21 (.callg 579 [t 20]),v 22 0,o 23 (.nilcheck (t 22)),o 24 (.faddr (t 23) 1),o 25 (.faddr (t 24) 1),o 26 (.load none (t 25)),o 27 (.bin .sub (t 26) (n 12)),o 28 (.bin .quo (t 27) (n 2))]⟩,⟨false,[],[o 29 (.bin .gtr (t 21) (t 28)),v 19 29]⟩]) [0,5,19])
 (.after (.cond (t 19) (.seq (R [4] [o 4 (.val (n 9))])
 (.live [4] (.ret))) (.skip)) [0,5]))) [0,5]))) [0,5])
 (.seq (.seq (R [0,5,7] [v 30 0,v 31 5,o 32 (.callg 579 [t 31]),o 33 (.callg 580 [t 30,t 32]),v 7 33])
 (.seq (R [0,5,7,35] [v 34 7,o 35 (.bin .neq (t 34) (n 0))])
 (.after (.cond (t 35) (.seq (R [4] [v 36 7,v 4 36])
 (.live [4] (.ret))) (.skip)) [0,5])))
 (.seq (R [4] [v 37 0,v 38 0,v 39 5,o 40 (.callg 577 [t 38,t 39]),o 41 (.callg 578 [t 37,t 40]),v 4 41])
 (.live [4] (.ret))))))),none⟩
def code555L0:ACode :=
 .live [0,2,4,22,23] (.seq (R [0,2,4,22,23,24] [o 24 (.bin .lss (t 23) (t 22))])
 (.seq (.after (.cond (t 24) (.skip) (.live [2,4] (.exit 0))) [0,2,4,22,23])
 (.seq (.after (.block 1 (.seq (R [0,2,4,5,22,23] [v 25 23,v 5 25])
 (.seq (R [0,2,4,5,6,7,22,23] [v 27 0,v 28 5,o 29 (.callg 564 [t 27,t 28]),v 26 29,o 30 (.extract (t 26) 0),o 31 (.extract (t 26) 1),o 6 (.lalloc [.int .i64 0,.int .u32 0,.int .i64 0]),u (.store 3 (t 6) (t 30)),v 7 31])
 (.seq (.seq (R [0,2,4,5,6,7,22,23,33] [v 32 7,o 33 (.bin .neq (t 32) (n 0))])
 (.after (.cond (t 33) (.seq (R [2,3] [v 34 7,u (.store 1 (t 2) (.const (.ptr none))),v 3 34])
 (.live [2,3] (.ret))) (.skip)) [0,2,4,5,6,22,23]))
 (.seq (.after (.region [⟨true,[0,0,2,6,14,0,32,126],[o 35 (.load none (t 2)),o 36 (.load none (t 2)),o 37 (.nilcheck (t 36)),o 38 (.faddr (t 37) 4),o 39 (.load none (t 38)),o 40 (.load (some 3) (t 6)),o 41 (.mkslice 3 1 [.int .i64 0,.int .u32 0,.int .i64 0] [(0,3,t 40)]),o 42 (.append 3 24 (t 39) (t 41))]⟩,⟨false,[],[o 43 (.nilcheck (t 35)),o 44 (.faddr (t 43) 4),u (.store 1 (t 44) (t 42))]⟩]) [0,2,4,5,6,22,23])
 (.seq (R [0,2,4,5,22,23,47] [o 45 (.faddr (t 6) 0),o 46 (.load none (t 45)),o 47 (.bin .eql (t 46) (n 2))])
 (.after (.cond (t 47) (R [0,2,4,22,23] [v 48 4,v 49 5,o 50 (.mkslice 1 1 [.int .i64 0] [(0,1,t 49)]),o 51 (.append 1 8 (t 48) (t 50)),v 4 51]) (.skip)) [0,2,4,22,23]))))))) [0,2,4,22,23])
 (R [0,2,4,22,23] [o 52 (.bin .add (t 23) (n 1)),v 23 52]))))
def code555:AFunc:=⟨false,false,1,85,[.cell 2 none,.tmp 3],
 .seq (R [0,2] [o 2 (.alloc 1 [.ptr none]),o 3 (.val (n 0))])
 (.seq (.seq (R [0,2,11] [v 10 0,o 11 (.eqnil .ptr false (t 10) (.const (.ptr none)))])
 (.after (.cond (t 11) (.seq (R [2,3] [u (.store 1 (t 2) (.const (.ptr none))),o 3 (.val (n 1))])
 (.live [2,3] (.ret))) (.skip)) [0,2]))
 (.seq (R [0,2] [v 12 0,v 13 0,o 14 (.callg 573 [t 13]),o 15 (.ext .mkmap []),o 16 (.build [.ptr none,.int .i64 0,.int .i64 0,.int .i64 0,.slice none 0 (some 0),.map none,.int .i64 0,.int .i64 0,.int .u32 0,.int .u32 0,.bool false] [(0,1,t 12),(1,3,t 14),(5,1,t 15),(6,1,.const (.int .i64 (-1)))]),o 17 (.box (t 16)),u (.store 1 (t 2) (t 17))])
 (.seq (R [0,2,4] [o 4 (.val (.const (.slice none 0 (some 0))))])
 (.seq (.seq (R [0,2,4,22,23] [o 18 (.load none (t 2)),o 19 (.nilcheck (t 18)),o 20 (.faddr (t 19) 1),o 21 (.faddr (t 20) 0),o 22 (.load none (t 21)),o 23 (.val (n 0))])
 (.after (.block 0 (.loop code555L0)) [2,4]))
 (.seq (R [2,4] [v 53 4,o 54 (.mkfunc 571 [] [t 2]),o 55 (.callg 572 [t 53,t 54])])
 (.seq (.seq (R [2,4,8] [o 56 (.load none (t 2)),v 57 4,o 58 (.callg 570 [t 56,t 57]),v 8 58])
 (.seq (R [2,4,8,60] [v 59 8,o 60 (.bin .neq (t 59) (n 0))])
 (.after (.cond (t 60) (.seq (R [2,3] [v 61 8,u (.store 1 (t 2) (.const (.ptr none))),v 3 61])
 (.live [2,3] (.ret))) (.skip)) [2,4])))
 (.seq (.seq (.after (.region [⟨true,[],[o 62 (.load none (t 2)),o 63 (.nilcheck (t 62)),o 64 (.faddr (t 63) 4),o 65 (.load none (t 64)),o 66 (.load none (t 2)),o 67 (.nilcheck (t 66)),o 68 (.faddr (t 67) 1),o 69 (.faddr (t 68) 2),o 70 (.load none (t 69))]⟩,⟨false,[],[o 71 (.callg 0 [t 65,t 70]),o 72 (.bin .eql (t 71) (n 0)),v 73 72,g 74 73 true (.val (t 4)),g 75 73 true (.len .sl (t 74)),g 76 73 true (.bin .gtr (t 75) (n 1)),o 77 (.pick (t 73) (t 76) F)]⟩]) [2,4,77])
 (.after (.cond (t 77) (.seq (R [2,9] [o 78 (.load none (t 2)),v 79 4,o 80 (.nextStr F),v 9 80])
 (.seq (R [2,9,82] [v 81 9,o 82 (.bin .neq (t 81) (n 0))])
 (.after (.cond (t 82) (.seq (R [2,3] [v 83 9,u (.store 1 (t 2) (.const (.ptr none))),v 3 83])
 (.live [2,3] (.ret))) (.skip)) [2]))) (.skip)) [2]))
 (.seq (R [2,3] [o 84 (.load none (t 2)),u (.store 1 (t 2) (t 84)),o 3 (.val (n 0))])
 (.live [2,3] (.ret)))))))))),none⟩
def code556:AFunc:=⟨false,false,1,33,[.tmp 2,.tmp 3],
 .seq (R [1] [o 1 (.lbox (t 0)),o 2 (.val (.const (.ptr none))),o 3 (.val (n 0))])
 (.seq (.seq (R [1,19] [o 4 (.faddr (t 1) 0),o 5 (.load none (t 4)),o 6 (.callg 568 [t 5,n 1,n 64]),o 7 (.un .not (t 6)),v 8 7,g 9 8 false (.faddr (t 1) 1),g 10 8 false (.load none (t 9)),g 11 8 false (.callg 568 [t 10,n 64,n 65536]),g 12 8 false (.un .not (t 11)),o 13 (.pick (t 8) Y (t 12)),v 14 13,g 15 14 false (.faddr (t 1) 2),g 16 14 false (.load none (t 15)),g 17 14 false (.callg 568 [t 16,n 1,n 1048576]),g 18 14 false (.un .not (t 17)),o 19 (.pick (t 14) Y (t 18))])
 (.after (.cond (t 19) (.seq (R [2,3] [o 2 (.val (.const (.ptr none))),o 3 (.val (n 1))])
 (.live [2,3] (.ret))) (.skip)) [1]))
 (.seq (.after (.region [⟨true,[0,0,0,4,0,16,60,126,0,256,768],[o 20 (.load (some 3) (t 1)),o 21 (.mkslice 1 1 [.int .u8 0] [(0,1,.const (.int .u8 255))]),o 22 (.faddr (t 1) 0),o 23 (.load none (t 22)),o 24 (.faddr (t 1) 1),o 25 (.load none (t 24)),o 26 (.bin .mul (t 23) (t 25)),o 27 (.callg 567 [t 21,t 26]),o 28 (.faddr (t 1) 0),o 29 (.load none (t 28)),o 30 (.make 1 8 [.int .i64 0] (t 29) (t 29))]⟩,⟨false,[],[o 31 (.build [.int .i64 0,.int .i64 0,.int .i64 0,.slice none 0 (some 0),.slice none 0 (some 0),.bool false,.int .i64 0,.int .i64 0,.int .u8 0] [(0,3,t 20),(3,1,t 27),(4,1,t 30),(6,1,.const (.int .i64 (-1)))]),o 32 (.box (t 31)),v 2 32,o 3 (.val (n 0))]⟩]) [2,3])
 (.live [2,3] (.ret)))),none⟩
def code557:AFunc:=⟨true,false,0,78,[.tmp 0],
 .seq (R [] [o 0 (.val F)])
 (.seq (R [1,2] [o 13 (.build [.int .i64 0,.int .i64 0,.int .i64 0] [(0,1,n 4),(1,1,n 128),(2,1,n 9)]),o 14 (.callg 556 [t 13]),v 12 14,o 15 (.extract (t 12) 0),o 16 (.extract (t 12) 1),v 1 15,v 2 16])
 (.seq (R [2,3,4] [v 18 1,o 19 (.callg 555 [t 18]),v 17 19,o 20 (.extract (t 17) 0),o 21 (.extract (t 17) 1),v 3 20,v 4 21])
 (.seq (R [2,3,4,5] [v 22 3,o 23 (.mkslice 1 2 [.int .u8 0,.int .u8 0] [(0,1,.const (.int .u8 120)),(1,1,.const (.int .u8 121))]),o 24 (.conv .same (t 23)),o 25 (.build [.bool false,.str [],.slice none 0 (some 0)] [(1,1,.const (.str [97])),(2,1,t 24)]),o 26 (.mkslice 3 1 [.bool false,.str [],.slice none 0 (some 0)] [(0,3,t 25)]),o 27 (.callg 549 [t 22,t 26]),v 5 27])
 (.seq (R [2,3,4,5,6,7] [v 29 3,o 30 (.callg 482 [t 29,.const (.str [97])]),v 28 30,o 31 (.extract (t 28) 0),o 32 (.extract (t 28) 1),v 6 31,v 7 32])
 (.seq (R [2,3,4,5,6,7,9] [v 34 3,o 35 (.callg 482 [t 34,.const (.str [98])]),v 33 35,o 36 (.extract (t 33) 0),o 37 (.extract (t 33) 1),v 8 36,v 9 37])
 (.seq (R [2,3,4,5,6,7,9,11] [o 39 (.callg 555 [.const (.ptr none)]),v 38 39,o 40 (.extract (t 38) 0),o 41 (.extract (t 38) 1),v 10 40,v 11 41])
 (.seq (R [0] [v 42 2,o 43 (.bin .eql (t 42) (n 0)),v 44 43,g 45 44 true (.val (t 4)),g 46 44 true (.bin .eql (t 45) (n 0)),o 47 (.pick (t 44) (t 46) F),v 48 47,g 49 48 true (.val (t 5)),g 50 48 true (.bin .eql (t 49) (n 0)),o 51 (.pick (t 48) (t 50) F),v 52 51,g 53 52 true (.val (t 11)),g 54 52 true (.bin .eql (t 53) (n 1)),o 55 (.pick (t 52) (t 54) F),v 56 55,g 57 56 true (.val (t 7)),o 58 (.pick (t 56) (t 57) F),v 59 58,g 60 59 true (.val (t 9)),g 61 59 true (.un .not (t 60)),o 62 (.pick (t 59) (t 61) F),v 63 62,g 64 63 true (.val (t 6)),g 65 63 true (.conv .string (t 64)),g 66 63 true (.bin .eql (t 65) (.const (.str [120,121]))),o 67 (.pick (t 63) (t 66) F),v 68 67,g 69 68 true (.val (t 3)),g 70 68 true (.callg 562 [t 69]),g 71 68 true (.bin .eql (t 70) (n 35)),o 72 (.pick (t 68) (t 71) F),v 73 72,g 74 73 true (.val (t 3)),g 75 73 true (.callg 563 [t 74]),g 76 73 true (.bin .eql (t 75) (n 58)),o 77 (.pick (t 73) (t 76) F),v 0 77])
 (.live [0] (.ret))))))))),none⟩
def code562L0:ACode :=
 .live [3,12] (.seq (.after (.seq (.next (some 13) (t 12)) (.region [⟨false,[],[o 14 (.extract (t 13) 0)]⟩])) [3,12,14])
 (.seq (.after (.cond (t 14) (.skip) (.live [3] (.exit 0))) [3,12])
 (.after (.block 1 (.seq (R [3,4,5,12] [o 15 (.ext .entry [t 12]),o 16 (.extract (t 15) 0),o 17 (.extract (t 15) 1),o 5 (.lalloc [.int .i64 0,.int .i64 0,.str []]),v 4 16,u (.store 3 (t 5) (t 17))])
 (.after (.region [⟨true,[],[v 18 3,v 19 4,o 20 (.build [.int .i64 0,.int .u32 0,.str [],.slice none 0 (some 0),.int .i64 0] [(2,1,t 19)]),o 21 (.callg 589 [t 20]),o 22 (.faddr (t 5) 2),o 23 (.load none (t 22)),o 24 (.len .str (t 23)),o 25 (.bin .add (t 21) (t 24)),o 26 (.build [.int .i64 0,.int .u32 0,.str [],.slice none 0 (some 0),.int .i64 0] []),o 27 (.callg 589 [t 26]),o 28 (.bin .add (t 25) (t 27))]⟩,⟨false,[],[o 29 (.bin .add (t 18) (t 28)),v 3 29]⟩]) [3,12]))) [3,12])))
def code562:AFunc:=⟨false,true,1,31,[.tmp 2],
 .seq (R [0] [o 2 (.val (n 0))])
 (.seq (.seq (R [0,7] [v 6 0,o 7 (.eqnil .ptr false (t 6) (.const (.ptr none)))])
 (.after (.cond (t 7) (.seq (R [2] [o 2 (.val (n 0))])
 (.live [2] (.ret))) (.skip)) [0]))
 (.seq (R [0,3] [o 3 (.val (n 0))])
 (.seq (.seq (R [3,12] [v 8 0,o 9 (.nilcheck (t 8)),o 10 (.faddr (t 9) 5),o 11 (.load none (t 10)),o 12 (.ext .mkiter [t 11])])
 (.after (.block 0 (.loop code562L0)) [3]))
 (.seq (R [2] [v 30 3,v 2 30])
 (.live [2] (.ret)))))),none⟩
def code565L0:ACode :=
 .live [3,5,61,62,63] (.seq (R [3,5,61,62,63,64] [o 64 (.bin .lss (t 63) (t 62))])
 (.seq (.after (.cond (t 64) (.skip) (.live [5] (.exit 2))) [3,5,61,62,63])
 (.seq (.after (.block 3 (.seq (R [3,5,9,10,61,62,63] [v 65 63,o 66 (.iaddr 3 (t 61) (t 63)),o 67 (.load (some 3) (t 66)),o 10 (.lalloc [.int .i64 0,.int .u32 0,.int .i64 0]),v 9 65,u (.store 3 (t 10) (t 67))])
 (.seq (R [3,5,10,11,12,61,62,63] [v 69 3,v 70 9,o 71 (.callg 564 [t 69,t 70]),v 68 71,o 72 (.extract (t 68) 0),o 73 (.extract (t 68) 1),o 11 (.lalloc [.int .i64 0,.int .u32 0,.int .i64 0]),u (.store 3 (t 11) (t 72)),v 12 73])
 (.seq (R [3,5,61,62,63,80] [v 74 12,o 75 (.bin .neq (t 74) (n 0)),v 76 75,g 77 76 false (.load (some 3) (t 10)),g 78 76 false (.load (some 3) (t 11)),g 79 76 false (.ext (.pure (.eqcells true [.i,.i,.i])) [t 77,t 78]),o 80 (.pick (t 76) Y (t 79))])
 (.after (.cond (t 80) (.seq (R [2] [o 2 (.val F)])
 (.live [2] (.ret))) (.skip)) [3,5,61,62,63]))))) [3,5,61,62,63])
 (R [3,5,61,62,63] [o 81 (.bin .add (t 63) (n 1)),v 63 81]))))
def code565L1:ACode :=
 .live [3,5,7,8] (.seq (.seq (.after (.region [⟨false,[],[v 40 8,o 41 (.bin .lss (t 40) (n 20)),v 42 41]⟩,⟨true,[],[g 43 42 true (.val (t 7)),g 44 42 true (.nilcheck (t 43)),g 45 42 true (.faddr (t 44) 1),g 46 42 true (.load none (t 45)),g 47 42 true (.val (t 7)),g 48 42 true (.nilcheck (t 47)),g 49 42 true (.faddr (t 48) 0),g 50 42 true (.load none (t 49)),g 51 42 true (.len .sl (t 50))]⟩,⟨false,[],[g 52 42 true (.bin .lss (t 46) (t 51)),o 53 (.pick (t 42) (t 52) F)]⟩]) [3,5,7,8,53])
 (.after (.cond (t 53) (.skip) (.live [3,5] (.exit 0))) [3,5,7,8]))
 (.seq (.after (.block 1 (R [3,5,7,8] [v 56 5,v 57 7,o 58 (.callg 566 [t 57]),o 59 (.callg 549 [t 56,t 58])])) [3,5,7,8])
 (R [3,5,7,8] [v 54 8,o 55 (.bin .add (t 54) (n 1)),v 8 55])))
def code565:AFunc:=⟨false,false,1,122,[.tmp 2],
 .seq (R [0] [o 2 (.val F)])
 (.seq (.seq (R [0,17] [o 16 (.callg 557 []),o 17 (.un .not (t 16))])
 (.after (.cond (t 17) (.seq (R [2] [o 2 (.val F)])
 (.live [2] (.ret))) (.skip)) [0]))
 (.seq (.seq (R [0,20] [v 18 0,o 19 (.len .sl (t 18)),o 20 (.bin .gtr (t 19) (n 200))])
 (.after (.cond (t 20) (.seq (R [2] [o 2 (.val Y)])
 (.live [2] (.ret))) (.skip)) [0]))
 (.seq (R [0,3,4] [o 22 (.build [.int .i64 0,.int .i64 0,.int .i64 0] [(0,1,n 5),(1,1,n 200),(2,1,n 100)]),o 23 (.callg 556 [t 22]),v 21 23,o 24 (.extract (t 21) 0),o 25 (.extract (t 21) 1),v 3 24,v 4 25])
 (.seq (R [0,3,4,5,6] [v 27 3,o 28 (.callg 555 [t 27]),v 26 28,o 29 (.extract (t 26) 0),o 30 (.extract (t 26) 1),v 5 29,v 6 30])
 (.seq (.seq (R [0,3,5,36] [v 31 4,o 32 (.bin .neq (t 31) (n 0)),v 33 32,g 34 33 false (.val (t 6)),g 35 33 false (.bin .neq (t 34) (n 0)),o 36 (.pick (t 33) Y (t 35))])
 (.after (.cond (t 36) (.seq (R [2] [o 2 (.val F)])
 (.live [2] (.ret))) (.skip)) [0,3,5]))
 (.seq (R [3,5,7] [v 37 0,o 38 (.build [.slice none 0 (some 0),.int .i64 0] [(0,1,t 37)]),o 39 (.box (t 38)),v 7 39])
 (.seq (.seq (R [3,5,7,8] [o 8 (.val (n 0))])
 (.after (.block 0 (.loop code565L1)) [3,5]))
 (.seq (.seq (R [3,5,61,62,63] [v 60 5,o 61 (.callg 560 [t 60]),o 62 (.len .sl (t 61)),o 63 (.val (n 0))])
 (.after (.block 2 (.loop code565L0)) [5]))
 (.seq (R [5,13] [o 13 (.val (.const (.ptr none)))])
 (.seq (R [5,13,15] [v 83 13,o 84 (.callg 482 [t 83,.const (.str [97])]),v 82 84,o 85 (.extract (t 82) 0),o 86 (.extract (t 82) 1),v 14 85,v 15 86])
 (.seq (R [2] [v 87 5,o 88 (.callg 560 [t 87]),o 89 (.len .sl (t 88)),o 90 (.bin .eql (t 89) (n 5)),v 91 90,g 92 91 true (.val (t 15)),g 93 91 true (.un .not (t 92)),o 94 (.pick (t 91) (t 93) F),v 95 94,g 96 95 true (.val (t 13)),g 97 95 true (.callg 561 [t 96]),o 98 (.pick (t 95) (t 97) F),v 99 98,g 100 99 true (.val (t 13)),g 101 99 true (.callg 480 [t 100,.const (.str [])]),g 102 99 true (.len .sl (t 101)),g 103 99 true (.bin .eql (t 102) (n 0)),o 104 (.pick (t 99) (t 103) F),v 105 104,g 106 105 true (.val (t 13)),g 107 105 true (.callg 549 [t 106,.const (.slice none 0 (some 0))]),g 108 105 true (.bin .eql (t 107) (n 5)),o 109 (.pick (t 105) (t 108) F),v 110 109,g 111 110 true (.val (t 13)),g 112 110 true (.callg 562 [t 111]),g 113 110 true (.val (t 13)),g 114 110 true (.callg 563 [t 113]),g 115 110 true (.bin .add (t 112) (t 114)),g 116 110 true (.val (t 13)),g 117 110 true (.callg 560 [t 116]),g 118 110 true (.len .sl (t 117)),g 119 110 true (.bin .add (t 115) (t 118)),g 120 110 true (.bin .eql (t 119) (n 0)),o 121 (.pick (t 110) (t 120) F),v 2 121])
 (.live [2] (.ret))))))))))))),none⟩
def code567:AFunc:=⟨false,false,0,0,[],.skip,some (.lib Go.Abs.repF)⟩
def code570L0:ACode :=
 .live [0,18,19,20] (.seq (R [0,18,19,20,21] [o 21 (.bin .lss (t 20) (t 19))])
 (.seq (.after (.cond (t 21) (.skip) (.live [] (.exit 0))) [0,18,19,20])
 (.seq (.after (.block 1 (.seq (R [0,6,18,19,20] [o 22 (.iaddr 1 (t 18) (t 20)),o 23 (.load none (t 22)),v 6 23])
 (.seq (R [0,7,18,19,20] [v 24 0,v 25 6,o 26 (.nextStr F),v 7 26])
 (.seq (R [0,7,18,19,20,28] [v 27 7,o 28 (.bin .neq (t 27) (n 0))])
 (.after (.cond (t 28) (.seq (R [4] [v 29 7,v 4 29])
 (.live [4] (.ret))) (.skip)) [0,18,19,20]))))) [0,18,19,20])
 (R [0,18,19,20] [o 30 (.bin .add (t 20) (n 1)),v 20 30]))))
def code570:AFunc:=⟨false,false,2,31,[.tmp 4],
 .seq (R [0,1] [o 4 (.val (n 0))])
 (.seq (R [0,1] [v 8 0,v 9 0,v 10 0,o 11 (.ext .mkmap []),o 12 (.nilcheck (t 8)),o 13 (.faddr (t 12) 5),u (.store 1 (t 13) (t 11)),o 14 (.nilcheck (t 9)),o 15 (.faddr (t 14) 6),u (.store 1 (t 15) (.const (.int .i64 (-1)))),o 16 (.nilcheck (t 10)),o 17 (.faddr (t 16) 9),u (.store 1 (t 17) (.const (.int .u32 0)))])
 (.seq (.seq (R [0,18,19,20] [v 18 1,o 19 (.len .sl (t 18)),o 20 (.val (n 0))])
 (.after (.block 0 (.loop code570L0)) []))
 (.seq (R [4] [o 4 (.val (n 0))])
 (.live [4] (.ret))))),none⟩
def code580L0:ACode :=
 .live [0,1,12,13] (.seq (R [0,1,12,13,14] [o 14 (.bin .lss (t 13) (t 12))])
 (.seq (.after (.cond (t 14) (.skip) (.live [0,1] (.exit 0))) [0,1,12,13])
 (.seq (.after (.block 1 (.seq (R [0,1,5,12,13] [v 15 0,o 16 (.mkfunc 599 [t 15] []),v 5 16])
 (.seq (.after (.block 2 (.seq (R [0,1,5,12,13,17] [v 18 0,v 19 1,o 20 (.callg 597 [t 18,t 19]),v 17 20])
 (.after (.cond (t 17) (.seq (R [4] [o 4 (.val (n 0))])
 (.live [4] (.ret))) (.seq (.after (.region [⟨true,[],[v 22 0,o 23 (.nilcheck (t 22)),o 24 (.faddr (t 23) 4),o 25 (.load none (t 24)),v 26 0,o 27 (.nilcheck (t 26)),o 28 (.faddr (t 27) 1),o 29 (.faddr (t 28) 2),o 30 (.load none (t 29))]⟩,⟨false,[],[o 31 (.callg 0 [t 25,t 30]),o 32 (.bin .geq (t 31) (n 2)),v 21 32]⟩]) [0,1,5,12,13,21])
 (.after (.cond (t 21) (R [0,1,5,12,13] [v 33 0,o 34 (.mkfunc 598 [t 33] []),v 5 34]) (.skip)) [0,1,5,12,13]))) [0,1,5,12,13]))) [0,1,5,12,13])
 (.seq (R [0,1,6,12,13] [v 35 5,o 36 (.call (t 35) []),v 6 36])
 (.seq (R [0,1,6,12,13,38] [v 37 6,o 38 (.bin .neq (t 37) (n 0))])
 (.after (.cond (t 38) (.seq (R [4] [v 39 6,v 4 39])
 (.live [4] (.ret))) (.skip)) [0,1,12,13])))))) [0,1,12,13])
 (R [0,1,12,13] [o 40 (.bin .add (t 13) (n 1)),v 13 40]))))
def code580:AFunc:=⟨false,false,2,44,[.tmp 4],
 .seq (R [0,1] [o 4 (.val (n 0))])
 (.seq (.seq (R [0,1,12,13] [v 7 0,o 8 (.nilcheck (t 7)),o 9 (.faddr (t 8) 4),o 10 (.load none (t 9)),o 11 (.len .sl (t 10)),o 12 (.bin .mul (n 4) (t 11)),o 13 (.val (n 0))])
 (.after (.block 0 (.loop code580L0)) [0,1]))
 (.seq (.seq (R [43] [v 41 0,v 42 1,o 43 (.callg 597 [t 41,t 42])])
 (.after (.cond (t 43) (.seq (R [4] [o 4 (.val (n 0))])
 (.live [4] (.ret))) (.skip)) []))
 (.seq (R [4] [o 4 (.val (n 10))])
 (.live [4] (.ret))))),none⟩
def rcode615a:ACode :=
 R [1,2,7] [v 7 48]
def rcode615b:ACode :=
 .after (.block 1 (.seq (R [1,2,8] [o 49 (.load none (t 1)),v 50 7,o 51 (.callg 577 [t 49,t 50]),v 8 51])
 (.seq (R [1,2,8,53] [v 52 8,o 53 (.bin .neq (t 52) (n 0))])
 (.after (.cond (t 53) (.seq (R [] [o 54 (.load none (t 1)),v 55 8,o 56 (.callg 578 [t 54,t 55]),u (.store 1 (t 2) (t 56))])
 (.live [] (.ret))) (.skip)) [])))) []
def round615:ARound:=⟨[48],rcode615a,rcode615b⟩
def code615:AFunc:=⟨false,false,0,0,[],.skip,some (.round round615)⟩
def code599:AFunc:=⟨false,false,1,62,[.cell 2 none],
 .seq (R [1,2] [o 1 (.box (t 0)),o 2 (.alloc 1 [.int .i64 0])])
 (.seq (R [1,2,3,4] [o 10 (.load none (t 1)),o 11 (.nilcheck (t 10)),o 12 (.faddr (t 11) 4),o 13 (.load none (t 12)),o 14 (.callg 5 [t 13]),v 9 14,o 15 (.extract (t 9) 0),o 16 (.extract (t 9) 1),v 3 15,v 4 16])
 (.seq (.seq (R [1,2,3,18] [v 17 4,o 18 (.un .not (t 17))])
 (.after (.cond (t 18) (.seq (R [2] [u (.store 1 (t 2) (n 10))])
 (.live [2] (.ret))) (.skip)) [1,2,3]))
 (.seq (.seq (R [1,2,3,24] [v 19 3,o 20 (.load none (t 1)),o 21 (.nilcheck (t 20)),o 22 (.faddr (t 21) 6),o 23 (.load none (t 22)),o 24 (.bin .eql (t 19) (t 23))])
 (.after (.cond (t 24) (R [1,2,3] [o 25 (.load none (t 1)),o 26 (.nilcheck (t 25)),o 27 (.faddr (t 26) 6),u (.store 1 (t 27) (.const (.int .i64 (-1))))]) (.skip)) [1,2,3]))
 (.seq (R [1,2,3,5] [o 28 (.load none (t 1)),v 29 3,o 30 (.callg 617 [t 28,t 29]),v 5 30])
 (.seq (.seq (.after (.region [⟨false,[],[v 31 5,o 32 (.len .sl (t 31)),o 33 (.bin .gtr (t 32) (n 0)),v 34 33]⟩,⟨true,[],[g 35 34 true (.load none (t 1)),g 36 34 true (.val (t 5)),g 37 34 true (.callg 579 [t 36])]⟩,⟨false,[],[g 38 34 true (.callg 597 [t 35,t 37]),g 39 34 true (.un .not (t 38)),o 40 (.pick (t 34) (t 39) F)]⟩]) [1,2,3,5,40])
 (.after (.cond (t 40) (.seq (R [1,2,3,5,6] [o 41 (.load none (t 1)),o 42 (.callg 598 [t 41]),v 6 42])
 (.seq (R [1,2,3,5,6,44] [v 43 6,o 44 (.bin .neq (t 43) (n 0))])
 (.after (.cond (t 44) (.seq (R [2] [v 45 6,u (.store 1 (t 2) (t 45))])
 (.live [2] (.ret))) (.skip)) [1,2,3,5]))) (.skip)) [1,2,3,5]))
 (.seq (.seq (R [1,2,3,47] [v 46 5,o 47 (.callg 616 [t 46,n 16])])
 (.after (.block 0 (.after (.rangeFunc (t 47) 615 [1,2] [48] rcode615a rcode615b) [1,2,3])) [1,2,3]))
 (.seq (.after (.region [⟨true,[0,0,0,6],[o 57 (.load none (t 1)),o 58 (.load none (t 1)),v 59 3,o 60 (.callg 100594 [t 58,t 59])]⟩,⟨false,[],[o 61 (.callg 578 [t 57,t 60]),u (.store 1 (t 2) (t 61))]⟩]) [2])
 (.live [2] (.ret))))))))),none⟩
def code617L0:ACode :=
 .live [2,8,32,33,34] (.seq (R [2,8,32,33,34,35] [o 35 (.bin .lss (t 34) (t 33))])
 (.seq (.after (.cond (t 35) (.skip) (.live [8] (.exit 2))) [2,8,32,33,34])
 (.seq (.after (.block 3 (.seq (R [2,8,10,32,33,34] [o 36 (.iaddr 1 (t 32) (t 34)),o 37 (.load none (t 36)),v 10 37])
 (R [2,8,32,33,34] [v 38 8,v 39 10,o 40 (.load none (t 2)),o 41 (.nilcheck (t 40)),o 42 (.faddr (t 41) 5),o 43 (.load none (t 42)),v 44 10,o 45 (.ext (.lookup (.one .s) (.agg [.int .i64 0,.int .i64 0,.str []]) false) [t 43,t 44]),o 46 (.field (t 45) 2 none),o 47 (.conv .bytes (t 46)),o 48 (.build [.int .i64 0,.int .u32 0,.str [],.slice none 0 (some 0),.int .i64 0] [(0,1,n 1),(2,1,t 39),(3,1,t 47)]),o 49 (.mkslice 5 1 [.int .i64 0,.int .u32 0,.str [],.slice none 0 (some 0),.int .i64 0] [(0,5,t 48)]),o 50 (.append 5 64 (t 38) (t 49)),v 8 50]))) [2,8,32,33,34])
 (R [2,8,32,33,34] [o 51 (.bin .add (t 34) (n 1)),v 34 51]))))
def code617L1:ACode :=
 .live [1,2,5,15] (.seq (.after (.seq (.next (some 16) (t 15)) (.region [⟨false,[],[o 17 (.extract (t 16) 0)]⟩])) [1,2,5,15,17])
 (.seq (.after (.cond (t 17) (.skip) (.live [2,5] (.exit 0))) [1,2,5,15])
 (.after (.block 1 (.seq (R [1,2,5,6,7,15] [o 18 (.ext .entry [t 15]),o 19 (.extract (t 18) 0),o 20 (.extract (t 18) 1),o 7 (.lalloc [.int .i64 0,.int .i64 0,.str []]),v 6 19,u (.store 3 (t 7) (t 20))])
 (.seq (R [1,2,5,6,15,24] [o 21 (.faddr (t 7) 0),o 22 (.load none (t 21)),v 23 1,o 24 (.bin .eql (t 22) (t 23))])
 (.after (.cond (t 24) (R [1,2,5,15] [v 25 5,v 26 6,o 27 (.mkslice 1 1 [.str []] [(0,1,t 26)]),o 28 (.append 1 16 (t 25) (t 27)),v 5 28]) (.skip)) [1,2,5,15])))) [1,2,5,15])))
def code617:AFunc:=⟨false,true,2,53,[.tmp 4],
 .seq (R [1,2] [o 2 (.box (t 0)),o 4 (.val (.const (.slice none 0 (some 0))))])
 (.seq (R [1,2,5] [o 5 (.val (.const (.slice none 0 (some 0))))])
 (.seq (.seq (R [1,2,5,15] [o 11 (.load none (t 2)),o 12 (.nilcheck (t 11)),o 13 (.faddr (t 12) 5),o 14 (.load none (t 13)),o 15 (.ext .mkiter [t 14])])
 (.after (.block 0 (.loop code617L1)) [2,5]))
 (.seq (R [2,5] [v 29 5,o 30 (.mkfunc 627 [] [t 2]),o 31 (.callg 628 [t 29,t 30])])
 (.seq (R [2,5,8] [o 8 (.val (.const (.slice none 0 (some 0))))])
 (.seq (.seq (R [2,8,32,33,34] [v 32 5,o 33 (.len .sl (t 32)),o 34 (.val (n 0))])
 (.after (.block 2 (.loop code617L0)) [8]))
 (.seq (R [4] [v 52 8,v 4 52])
 (.live [4] (.ret)))))))),none⟩
def T:Nat→Option AFunc:=fun g=>match AbsBlb.T g with
 | some f=>some f
 | none=>List.lookup g [(88,code88),(140,code140),(142,code142),(480,code480),(494,code494),(495,code495),(496,code496),(497,code497),(505,code505),(506,code506),(507,code507),(522,code522),(512,code512),(513,code513),(525,code525),(531,code531),(542,code542),(549,code549),(555,code555),(556,code556),(557,code557),(562,code562),(565,code565),(567,code567),(570,code570),(580,code580),(615,code615),(599,code599),(617,code617)]
theorem sub:∀ g f,AbsBlb.T g=some f→T g=some f:=fun g f h=>by unfold T; rw [h]
theorem t88:T 88=some code88:=rfl
theorem t140:T 140=some code140:=rfl
theorem t142:T 142=some code142:=rfl
theorem t480:T 480=some code480:=rfl
theorem t494:T 494=some code494:=rfl
theorem t495:T 495=some code495:=rfl
theorem t496:T 496=some code496:=rfl
theorem t497:T 497=some code497:=rfl
theorem t505:T 505=some code505:=rfl
theorem t506:T 506=some code506:=rfl
theorem t507:T 507=some code507:=rfl
theorem t522:T 522=some code522:=rfl
theorem t512:T 512=some code512:=rfl
theorem t513:T 513=some code513:=rfl
theorem t525:T 525=some code525:=rfl
theorem t531:T 531=some code531:=rfl
theorem t542:T 542=some code542:=rfl
theorem t549:T 549=some code549:=rfl
theorem t555:T 555=some code555:=rfl
theorem t556:T 556=some code556:=rfl
theorem t557:T 557=some code557:=rfl
theorem t562:T 562=some code562:=rfl
theorem t565:T 565=some code565:=rfl
theorem t567:T 567=some code567:=rfl
theorem t570:T 570=some code570:=rfl
theorem t580:T 580=some code580:=rfl
theorem t615:T 615=some code615:=rfl
theorem t599:T 599=some code599:=rfl
theorem t617:T 617=some code617:=rfl
end Go.Abs.AbsBlo
