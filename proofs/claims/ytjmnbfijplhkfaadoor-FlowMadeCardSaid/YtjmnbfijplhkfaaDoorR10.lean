/-
  Texts joined.
-/
import Derived.Test.YtjmnbfijplhkfaaDoorR0
import Derived.Test.YtjmnbfijplhkfaaDoorR9
import Derived.Test.YtjmnbfijplhkfaaDoorR8
import Derived.Test.YtjmnbfijplhkfaaDoorR6
set_option linter.unusedVariables false
set_option linter.unusedSimpArgs false
set_option maxRecDepth 100000
namespace Go.Abs.AbsMk
open Go.Abs.AbsMake
open Go.Abs.AbsDesc hiding T
open Go.Abs.AbsHier hiding T sub
variable {os O B:List AObj} {b w:Nat} {tN:Nat} {tb:List UInt8} {tv:AVal} {pc pt px:Option (Nat × Nat)} {cc ct cx:Option Nat} {C:List InsU} {S:List TrapU} {M:List MapU} {dep bud:Int} {X:WX} {k:Nat}
theorem Own.row {α:Type} {N e:Nat} {f:α→List AVal} {L:List α} {p:Option (Nat × Nat)} {c:Option Nat} (hf:∀ x,(f x).length=e) (h:Own O N e f L p c):Row O e f L p:=by
 cases p with
 | none=>obtain ⟨rfl,_⟩:=h.none rfl; exact ⟨fun h=>absurd rfl h⟩
 | some q =>
  obtain ⟨i,o⟩:=q
  obtain ⟨rfl,_,_,h4⟩:=h.some i o rfl
  exact Row.mk0 hf h4
theorem take_get {cs L:List AVal} {m e k:Nat} (h:List.take e (List.drop m cs)=L) (hk:k < e):cs[m+k]? = L[k]?:=by
 rw [← h,dg hk,c9]
inductive StackOf (O:List AObj) (N:Nat):Option (Nat × Nat)→Option Nat→List Str→Prop
 | nil:StackOf O N none (some 0) []
 | one (q:Nat) (s:Str):N < q→s.length≤100→O[q]? = some (.cells 1 [.str s])→StackOf O N (some (q,0)) (some 1) [s]
theorem ids_slice {n m:Nat} {a:Option (Nat × Nat)} {c:Option Nat} (h:under n a):∀ i ∈ (AVal.slice a m c).ids,i < n:=by
 cases a with
 | none=>simp [AVal.ids]
 | some p=>obtain ⟨j,o⟩:=p; simp only [AVal.ids,bo]; rintro i rfl; exact h _ _ rfl
theorem ids_map {n:Nat}:∀ {M:List MapU},(∀ x ∈ M,under n x.la∧under n x.sa)→∀ i ∈ AVal.idsL (M.flatMap MapU.cells),i < n
 | [],_=>by simp [AVal.idsL]
 | x :: M,h=>by
  intro i hi
  rw [cg,idsL_app,bf] at hi
  rcases hi with hi | hi
  ·simp only [MapU.cells,AVal.idsL,AVal.ids,b0,ig,bf] at hi
   rcases hi with hi | hi
   ·exact ids_slice (h x (av ..)).1 i hi
   ·exact ids_slice (h x (av ..)).2 i hi
  ·exact ids_map (fun y hy=>h y (bq _ hy)) i hi
theorem all_okId {n0:Nat} {l:List Nat} (h:∀ i ∈ l,i < n0+1) (hm:n0 ∈ l) (m:Nat) (ds:List Go.Abs.Did):l.all (okId n0 m ds)=okId n0 m ds n0:=by
 rw [Bool.eq_iff_iff,am]
 constructor
 ·intro hh; exact hh _ hm
 ·intro hh i hi
  rcases aw i n0 with q | q
  ·simp [okId,q]
  ·have:=h i hi
   rw [show i=n0 by omega]; exact hh
set_option maxHeartbeats 1600000 in
theorem s208 (h:Ws tN tb tv B O X k dep) (hb:b≤tN) (hk:k+1≤100000) {sa:Option (Nat × Nat)} {sc:Option Nat} {L:List Str} (hst:StackOf O B.length sa sc L) {a0 a1 a2 a3 a4 a5:AVal} (hat:O[B.length]? = some (.cells 6 [a0,a1,a2,a3,a4,a5])) :
  ∃ (O':List AObj) (nx:Nat→Nat) (a3':AVal),Ws tN tb tv B O' (X.label L) (k+1) dep∧O'[B.length]? = some (.cells 6 [a0,a1,a2,a3',a4,a5])∧O.length≤O'.length∧((∀ w,nx w=w)∨(∀ w,nx w=min w B.length)) ∧
   ∀ w,xCall T 100208 [.ptr (some (B.length,0)),.slice sa L.length sc] ⟨O,b,w⟩=some (.int .i64 X.C.length,⟨O',b,nx w⟩):=by
 obtain ⟨pc,pt,px,cc,ct,cx,M,bud,hW,hMk,h2,h3,h4⟩:=h.ex
 obtain ⟨C,hC⟩:∃ C,X.C=C:=⟨_,rfl⟩
 obtain ⟨S,hS⟩:∃ S,X.S=S:=⟨_,rfl⟩
 rw [hC,hS] at hW
 rw [hC] at h2
 rw [hS] at h3
 rw [hC]
 have hlast:X.M.getLast? = M.getLast?.map MapU.key:=by rw [← hMk,List.getLast?_map]
 have hwr:=hW.wr
 have hBO:=hW.len
 have hlt:=hW.lt
 have e:=hat.symm.trans hwr
 simp only [wrO,ap,AObj.cells.injEq,eb,true_and,and_true] at e
 obtain ⟨rfl,rfl,rfl,rfl,rfl,rfl⟩:=e
 have hRm:Row O 3 MapU.cells M px:=Own.row (f:=MapU.cells) (fun _=>rfl) hW.m
 have hn1:C.length≤9223372036854775807:=by omega
 have hMl:M.length≤9223372036854775807:=by omega
 have hm:M.length=0∨∃ (l p:Nat) (cs:List AVal) (v:Int),M.length=l+1∧px=some (p,0)∧O[p]? = some (.cells 3 cs)∧l*3+3≤cs.length∧cs[l*3]? = some (.int .i64 v)∧B.length < p∧p < O.length:=by
  rcases ja M.length with c | c
  ·exact .inl c
  ·obtain ⟨y,hy⟩:∃ y,M[M.length - 1]? = some y:=⟨_,ak (by omega)⟩
   obtain ⟨p,o,cs,ha,hpp,hpl,hcs,ht⟩:=gm hRm hy
   obtain ⟨e1,e2,e3,e4⟩:=hW.m.some p o ha
   subst e1
   have:=take_get (k:=0) ht (by decide)
   rw [dc,fm] at this
   exact .inr ⟨M.length - 1,p,cs,y.at',by omega,ha,hpp,by omega,this,e3,hpl⟩
 have hv:∀ (l p:Nat) (cs:List AVal) (v:Int),M.length=l+1→px=some (p,0)→O[p]? = some (.cells 3 cs)→cs[l*3]? = some (.int .i64 v)→∃ y,M.getLast? = some y∧y.at'=v:=by
  intro l p cs v m1 m2 m3 m5
  obtain ⟨y,hy⟩:∃ y,M[l]? = some y:=⟨_,ak (by omega)⟩
  obtain ⟨p',o,cs',ha,hpp,hpl,hcs,ht⟩:=gm hRm hy
  rw [m2] at ha
  cases ha
  rw [m3] at hpp
  cases hpp
  have:=take_get (k:=0) ht (by decide)
  rw [dc,fm,m5] at this
  refine ⟨y,by rw [List.getLast?_eq_getElem?,m1]; exact hy,?_⟩
  have e2:y.cells[0]? = some (.int .i64 y.at'):=rfl
  rw [e2] at this
  injection this with this; injection this with _ this; exact this.symm
 have hlab1:(M.length=0∨∃ y,M.getLast? = some y∧y.at'≠C.length)→X.label L=⟨X.C,X.S,X.M++[((C.length:Int),localsL,L)]⟩:=fun hh=>by
  unfold WX.label
  rw [if_neg,hC]
  rintro ⟨z,hz1,hz2⟩
  rw [hlast] at hz1
  rcases hh with hh | ⟨y,hy1,hy2⟩
  ·rw [b6 hh] at hz1; simp at hz1
  ·rw [hy1] at hz1
   simp only [db,ap] at hz1
   rw [← hz1,hC] at hz2
   exact hy2 hz2
 have hlab2:∀ y,M.getLast? = some y→y.at'=C.length→X.label L=X:=fun y hy1 hy2=>by
  unfold WX.label
  rw [if_pos]
  exact ⟨y.key,by rw [hlast,hy1]; rfl,by rw [hC]; exact hy2⟩
 have hX:=fun w=>s222 (O:=O) (b:=b) (w:=w) (by omega)
 have hl1:Leaf (O++[.cells 1 (localsL.flatMap strC)]) B.length pc pt px localsL (some (O.length,0)):=(hW.app _).leaf1 hBO (by rw [dh]; rfl) (by decide) (by decide)
 have hl2:Leaf (O++[.cells 1 (localsL.flatMap strC)]) B.length pc pt px L sa:=by
  cases hst with
  | nil=>exact leaf0
  | one q s q1 q2 q3=>exact (hW.app _).leaf1 q1 (by rw [ag (ah q3),q3]; rfl) (by simp) (by simpa using q2)
 obtain ⟨x,hx⟩:∃ x:MapU,x=⟨C.length,localsL,some (O.length,0),some 7,L,sa,sc⟩:=⟨_,rfl⟩
 have hcu:x.cells=[.int .i64 C.length,.slice (some (O.length,0)) 7 (some 7),.slice sa L.length sc]:=by rw [hx]; rfl
 have h1:=app_own (b:=b) (by':=56) (x:=x) (f:=MapU.cells) (fun _=>rfl) hW.m (by omega) (by omega) (by omega) [.cells 1 (localsL.flatMap strC)]
 have h5:=hW.addM (x:=x) [.cells 1 (localsL.flatMap strC)] (by rw [hx]; exact hl1) (by rw [hx]; exact hl2)
 have hidm:∀ i ∈ AVal.idsL ((M++[x]).flatMap MapU.cells),i < O.length+1:=ids_map fun y hy=>by
  have go:∀ {L:List Str} {a:Option (Nat × Nat)},Leaf (O++[.cells 1 (localsL.flatMap strC)]) B.length pc pt px L a→under (O.length+1) a:=fun hL i o e=>by have:=(hL.at' i o e).2.1; simpa using this
  rcases bf.1 hy with hy | hy
  ·exact ⟨go ((hW.mok y hy).1.app _),go ((hW.mok y hy).2.app _)⟩
  ·rw [bo.1 hy,hx]; exact ⟨go hl1,go hl2⟩
 have hmemR:O.length ∈ AVal.idsL ((M++[x]).flatMap MapU.cells):=by
  rw [List.flatMap_append,idsL_app,bf]
  right
  simp [hcu,AVal.idsL,AVal.ids]
 have hall:=all_okId hidm hmemR
 generalize (M++[x]).flatMap MapU.cells=R at *
 generalize localsL.flatMap strC=Y at *
 simp only [ce] at h1 h5
 obtain ⟨O',hO'⟩:∃ O',O'=(killO px O++([AObj.cells 1 Y]++[AObj.cells 3 x.cells,AObj.cells 3 R])).set B.length (wrO tN pc pt (some (O.length+1+1,0)) cc ct none C.length S.length (M.length+1) dep bud):=⟨_,rfl⟩
 rw [← hO'] at h5
 have hlO:O.length≤O'.length:=by rw [hO']; simp
 have key:∀ w,(M.length=0∨∃ (l p:Nat) (cs:List AVal) (v:Int),M.length=l+1∧px=some (p,0)∧O[p]? = some (.cells 3 cs)∧l*3+3≤cs.length∧cs[l*3]? = some (.int .i64 v)∧B.length < p∧p < O.length∧v≠C.length) →
   xCall T 100208 [.ptr (some (B.length,0)),.slice sa L.length sc] ⟨O,b,w⟩=some (.int .i64 C.length,⟨O',b,min w B.length⟩):=by
  intro w hm
  rw [hcu] at h1 hO'
  have hlw:=h.lows hat
  have hB1:∀ Y,(killO px O++Y)[B.length]? = some (AObj.cells 6 [.ptr (some (tN,0)),.slice pc C.length cc,.slice pt S.length ct,.slice px M.length cx,.int .i64 dep,.int .i64 bud]):=fun Y=>by
   rw [ag (by simpa using hBO),kill_get fun o e=>by have:=(hlw.2.2 _ _ e).2; omega]; exact hat
  rcases hm with hm | ⟨l,p,cs,v,m1,m2,m3,m4,m5,m6,m7,m8⟩
  ·rw [hm] at hat h1 hO' hB1
   simp only [wrO] at hO'
   rw [hO']
   cases px with
   | none =>
    cases hst with
    | nil =>
     simp only [killO,killW,b9,b0,a7,ce] at h1 hB1 ⊢
     simp (maxSteps:=3000000) (disch:=omega) [-getElem?_pos,-getElem?_neg,-List.all_eq_true,gz,gs,nltT,nltF,iltT,iltF,ileT,nleT,cf,au,benign,again,AVal.eqb,-sget,dy,dz,d7,-aAppend,az gt,code100208,hat,hX,h1,hall,hB1,f0,dh,hm]
    | one q s q1 q2 q3 =>
     simp only [killO,killW,b9,b0,a7,ce] at h1 hB1 ⊢
     have q4:=ah q3
     simp (maxSteps:=3000000) (disch:=omega) [-getElem?_pos,-getElem?_neg,-List.all_eq_true,gz,gs,nltT,nltF,iltT,iltF,ileT,nleT,cf,au,benign,again,AVal.eqb,-sget,dy,dz,d7,-aAppend,az gt,code100208,hat,hX,h1,hall,hB1,f0,dh,hm]
   | some q0 =>
    obtain ⟨i,o⟩:=q0
    obtain ⟨l1,l2⟩:=hlw.2.2 i o rfl
    have hk0:∀ Y:List AObj,(O.set i .dead++Y)[O.length]? = Y[0]?:=fun Y=>by rw [ai (by simp)]; simp
    have hk1:∀ (Y:List AObj) (j:Nat),(O.set i .dead++Y)[O.length+j]? = Y[j]?:=fun Y j=>by rw [ai (by simp)]; simp
    have hi1:¬ i=O.length+2:=by omega
    have hi2:¬ O.length+2≤i:=by omega
    have hi3:¬ O.length+1≤i:=by omega
    have hi4:¬ O.length≤i:=by omega
    have hi5:i < O.length+2:=by omega
    have hi6:i < O.length+1:=by omega
    have hiB:i≠B.length:=by omega
    have hi7:¬ i=O.length+1:=by omega
    have hi8:¬ i=O.length:=by omega
    cases hst with
    | nil =>
     simp only [killO,killW,b9,b0,a7,ce] at h1 hB1 ⊢
     simp (maxSteps:=3000000) (disch:=omega) [-getElem?_pos,-getElem?_neg,-List.all_eq_true,gz,gs,nltT,nltF,iltT,iltF,ileT,nleT,cf,au,benign,again,AVal.eqb,-sget,dy,dz,d7,-aAppend,az gt,code100208,hat,hX,h1,hall,hB1,f0,dh,hk0,hk1,hi1,hi2,hi3,hi4,hi5,hi6,hi7,hi8,hiB,l1,l2]
    | one q s q1 q2 q3 =>
     simp only [killO,killW,b9,b0,a7,ce] at h1 hB1 ⊢
     have q4:=ah q3
     simp (maxSteps:=3000000) (disch:=omega) [-getElem?_pos,-getElem?_neg,-List.all_eq_true,gz,gs,nltT,nltF,iltT,iltF,ileT,nleT,cf,au,benign,again,AVal.eqb,-sget,dy,dz,d7,-aAppend,az gt,code100208,hat,hX,h1,hall,hB1,f0,dh,hk0,hk1,hi1,hi2,hi3,hi4,hi5,hi6,hi7,hi8,hiB,l1,l2]
  ·rw [m1] at hat h1 hO' hB1
   simp only [wrO] at hO'
   rw [hO']
   subst m2
   have hpp:=fun Y=>(ag (l₂:=Y) m7).trans m3
   have hk0:∀ Y:List AObj,(O.set p .dead++Y)[O.length]? = Y[0]?:=fun Y=>by rw [ai (by simp)]; simp
   have hk1:∀ (Y:List AObj) (j:Nat),(O.set p .dead++Y)[O.length+j]? = Y[j]?:=fun Y j=>by rw [ai (by simp)]; simp
   have hi1:¬ p=O.length+2:=by omega
   have hi2:¬ O.length+2≤p:=by omega
   have hi3:¬ O.length+1≤p:=by omega
   have hi4:¬ O.length≤p:=by omega
   have hi5:p < O.length+2:=by omega
   have hi6:p < O.length+1:=by omega
   have hiB:p≠B.length:=by omega
   have hi7:¬ p=O.length+1:=by omega
   have hi8:¬ p=O.length:=by omega
   cases hst with
   | nil =>
    simp only [killO,killW,b9,b0,a7,ce] at h1 hB1 ⊢
    simp (maxSteps:=3000000) (disch:=omega) [-getElem?_pos,-getElem?_neg,-List.all_eq_true,gz,gs,nltT,nltF,iltT,iltF,ileT,nleT,cf,au,benign,again,AVal.eqb,-sget,dy,dz,d7,-aAppend,az gt,code100208,hat,hX,h1,hall,hB1,f0,dh,hk0,hk1,hi1,hi2,hi3,hi4,hi5,hi6,hi7,hi8,hiB,m3,m5,m8,m6,m7]
   | one q s q1 q2 q3 =>
    simp only [killO,killW,b9,b0,a7,ce] at h1 hB1 ⊢
    have q4:=ah q3
    simp (maxSteps:=3000000) (disch:=omega) [-getElem?_pos,-getElem?_neg,-List.all_eq_true,gz,gs,nltT,nltF,iltT,iltF,ileT,nleT,cf,au,benign,again,AVal.eqb,-sget,dy,dz,d7,-aAppend,az gt,code100208,hat,hX,h1,hall,hB1,f0,dh,hk0,hk1,hi1,hi2,hi3,hi4,hi5,hi6,hi7,hi8,hiB,m3,m5,m8,m6,m7]
 rcases hm with hm | ⟨l,p,cs,v,m1,m2,m3,m4,m5,m6,m7⟩
 ·refine ⟨O',fun w=>min w B.length,_,?_,h5.wr,hlO,.inr fun w=>rfl,fun w=>key w (.inl hm)⟩
  rw [hlab1 (.inl hm)]
  exact ⟨_,_,_,_,_,_,M++[x],_,by rw [hC,hS]; exact h5,by rw [List.map_append,hMk,hx]; rfl,by rw [hC]; omega,by rw [hS]; omega,by simp; omega⟩
 ·by_cases c1:v=C.length
  ·obtain ⟨y,y1,y2⟩:=hv l p cs v m1 m2 m3 m5
   refine ⟨O,id,_,by rw [hlab2 y y1 (y2.trans c1)]; exact h.le (by omega),hat,aj _,.inl fun w=>rfl,fun w=>?_⟩
   subst c1 m2
   have hli:((l:Int)+1) - 1=l:=by omega
   rw [m1] at hat
   simp (maxSteps:=3000000) (disch:=omega) [-getElem?_pos,-getElem?_neg,-List.all_eq_true,gz,gs,nltT,nltF,iltT,iltF,ileT,nleT,cf,-sget,dy,dz,d7,az gt,code100208,hat,m1,m3,m5]
  ·refine ⟨O',fun w=>min w B.length,_,?_,h5.wr,hlO,.inr fun w=>rfl,fun w=>key w (.inr ⟨l,p,cs,v,m1,m2,m3,m4,m5,m6,m7,c1⟩)⟩
   obtain ⟨y,y1,y2⟩:=hv l p cs v m1 m2 m3 m5
   rw [hlab1 (.inr ⟨y,y1,by rw [y2]; exact c1⟩)]
   exact ⟨_,_,_,_,_,_,M++[x],_,by rw [hC,hS]; exact h5,by rw [List.map_append,hMk,hx]; rfl,by rw [hC]; omega,by rw [hS]; omega,by simp; omega⟩
end Go.Abs.AbsMk

namespace Go.Abs.AbsMk
open Go.Abs.AbsMake
open Go.Abs.AbsDesc hiding T
open Go.Abs.AbsHier hiding T sub
variable {os O B:List AObj} {b w:Nat} {tN:Nat} {tb:List UInt8} {tv:AVal} {X:WX} {k:Nat} {dep:Int}
set_option maxHeartbeats 1000000 in
theorem k4_183 (hb:b≤tN) {x:Int} {nx1:Nat→Nat} {O1:List AObj} {j:Nat} {c0:List AVal} (h:Ws tN tb tv B O X k dep) (f2:Ws tN tb tv B O1 X k dep) (f5:(∀ w,nx1 w=w)∨(∀ w,nx1 w=min w tN))
  (f6:∀ w,xCall T 102 [.ptr (some (tN,0)),.int .i64 6] ⟨O,b,w⟩=some (.int .i64 ((4:Nat):Int),⟨O1,b,nx1 w⟩))
  (hat:O[B.length]? = some (.cells 6 (.ptr (some (tN,0)) :: c0))) (hj:1≤j) (hk:k+j≤100000) :
  Did tN tb tv B b 183 [.ptr (some (B.length,0)),.int .i64 x] (.tuple []) O fun O'=>∃ E,GL E∧Ws tN tb tv B O' (X.add E) (k+j) dep:=by
 obtain ⟨hlt,hBO⟩:=h.len
 have hBO1:=f2.len.2
 obtain ⟨r2,O2,nx,g1,g2,g3,g4,g5,g6⟩:=f2.next hb (x:=256) (by decide) (by decide)
 have hBO2:=g2.len.2
 have hO12:O2.length=O1.length:=g3
 obtain ⟨pc,pt,px,cc,ct,cx,nt,nx',bud,cs,h1,h6,h9,h7,hkw,hk1,hk2,h8⟩:=g2.put (b:=b) (x:=⟨20,(r2:Int)*1099511627776 - 5,0,[],[],[74],[]⟩) hb (by omega) ⟨by simp,by simp,by simp,by simp⟩
 have e11:=(g4 B.length (by omega)).symm.trans h1
 obtain ⟨lw,_,_⟩:=g2.lows h1
 have n1:¬ (r2:Int) < 0:=by omega
 have hok:=fun m ds=>okSl (n0:=O1.length) (m:=m) (q:=X.C.length) (ds:=ds) (c:=cc) (p:=pc) fun i o e=>by have:=(lw i o e).1; omega
 obtain ⟨m'',q4,q5,q6⟩:=nx_min f5 (aj tN)
 have hwl1:nx1 O.length=O.length∨nx1 O.length=tN:=by rcases f5 with g | g <;> rw [g] <;> omega
 have hwl:nx O1.length=O1.length∨nx O1.length=tN:=by rcases g5 with g | g <;> rw [g] <;> omega
 have hm1:min O1.length B.length=B.length:=by omega
 have hm2:min tN B.length=tN:=by omega
 refine ⟨_,min (nx1 O.length) (min (nx O1.length) B.length),⟨_,.ldc r2 (by omega),h8.le (by omega)⟩,by omega,by omega,fun w=>?_⟩
 simp only [InsU.cells] at h7 ⊢
 rw [hO12] at h7 ⊢
 rw [az t183]
 have hbits:min 40 IntKind.i64.bits=40:=rfl
 have hwl:nx O1.length=O1.length∨nx O1.length=tN:=by rcases g5 with g | g <;> rw [g] <;> omega
 have hg0:∀ Y:List AObj,(O2++Y)[O1.length]? = Y[0]?:=fun Y=>by rw [← hO12,dh]
 have hg1:∀ (Y:List AObj) (i:Nat),(O2++Y)[O1.length+i]? = Y[i]?:=fun Y i=>by rw [← hO12,f0]
 have hB1:∀ Y:List AObj,(O2++Y)[B.length]? = some (AObj.cells 6 [.ptr (some (tN,0)),.slice pc X.C.length cc,.slice pt nt ct,.slice px nx' cx,.int .i64 dep,.int .i64 bud]):=fun Y=>(ag (by omega)).trans h1
 have hids:AVal.idsL cs=[]:=h8.codeIds (q:=O2.length+1) (o:=0) (cs:=cs) (by rw [a9,if_pos rfl,if_pos (by simp; omega)]) (by
  rw [al (by omega),ai (by simp)]
  simp)
 have hBn:B.length≠tN:=by omega
 have c5:0 < x∨¬ 0 < x:=by omega
 cases pc with
 | none =>
  simp only [killO,killW] at h7 h9 ⊢
  rcases c5 with c4 | c4 <;> rcases hwl with hwl | hwl <;>
   simp (maxSteps:=3000000) (disch:=omega) [-getElem?_pos,-getElem?_neg,-List.all_eq_true,gz,gs,nltT,nltF,iltT,iltF,ileT,nleT,cf,au,benign,again,AVal.eqb,hO12,hbits,hg0,hg1,hB1,-sget,dy,dz,d7,-aAppend,code183,code183B0,hat,f6,c4,g6,h1,e11,hok,h7,h9,hids,hm1,hm2,hwl]
 | some q =>
  obtain ⟨i,o⟩:=q
  obtain ⟨l1,l2⟩:=lw i o rfl
  have hk0:∀ Y:List AObj,(O2.set i .dead++Y)[O1.length]? = Y[0]?:=fun Y=>by rw [← hO12,ai (by simp)]; simp
  have hk1:∀ (Y:List AObj) (j:Nat),(O2.set i .dead++Y)[O1.length+j]? = Y[j]?:=fun Y j=>by rw [← hO12,ai (by simp)]; simp
  have hi1:¬ i=O1.length+1:=by omega
  have hi2:¬ O1.length+1≤i:=by omega
  have hi3:¬ O1.length≤i:=by omega
  have hi4:i < O1.length:=by omega
  have hi5:i < O1.length+1:=by omega
  have hBi:B.length≤i:=by omega
  have htB:tN≤i:=by omega
  have hiB:i≠B.length:=by omega
  have hit:i≠tN:=by omega
  simp only [killO,killW] at h7 h9 ⊢
  rcases c5 with c4 | c4 <;> rcases hwl with hwl | hwl <;>
   simp (maxSteps:=3000000) (disch:=omega) [-getElem?_pos,-getElem?_neg,-List.all_eq_true,gz,gs,nltT,nltF,iltT,iltF,ileT,nleT,cf,au,benign,again,AVal.eqb,hO12,hbits,hg0,hg1,hB1,-sget,dy,dz,d7,-aAppend,code183,code183B0,hat,f6,c4,g6,h1,e11,hok,h7,h9,hids,hm1,hm2,hk0,hk1,hi1,hi2,hi3,hi4,hi5,hiB,hit,hwl]
end Go.Abs.AbsMk

namespace Go.Abs.AbsMk
open Go.Abs.AbsMake
open Go.Abs.AbsDesc hiding T
open Go.Abs.AbsHier hiding T sub
variable {os O B:List AObj} {b w:Nat} {tN:Nat} {tb:List UInt8} {tv:AVal} {X:WX} {k:Nat} {dep:Int}
section
attribute [-simp] getElem?_pos getElem?_neg List.all_eq_true
attribute [local simp] gz gs nltT nltF iltT iltF ileT nleT cf
theorem sw151 (hb:b≤tN) {d:Nat} {x:Int} (hx:-9≤x) (hx2:x≤9) (h:Ws tN tb tv B O X k dep) {j:Nat} (hj1:1≤j) (hk:k+j≤100000) {r:Nat} (hr:r < 16) (hrj:4≤r→2*KK d+1≤j)
  (hi:4≤r→Expr GI tN tb tv B b dep 151 (x - 1) (KK d)) (hl:4≤r→Expr GL tN tb tv B b dep 183 (x - 1) (KK d)) :
  ∃ O' m E,GI E∧Ws tN tb tv B O' (X.add E) (k+j) dep∧tN≤m∧m≤B.length∧∀ (w:Nat) (c:AExit→St→Option (AVal × Heap)),
   xK T code151B0 ⟨[(0,.val (.ptr (some (B.length,0)))),(1,.val (.int .i64 x)),(29,.val (.int .i64 r))],⟨O,b,w⟩⟩ (k:=⟨c⟩)=c .normal ⟨[],⟨O',b,min w m⟩⟩:=by
 have hKd:=KK_pos d
 have hx1:IntKind.i64.wrap (x - 1)=x - 1:=cf (by omega)
 obtain ⟨pc,pt,px,cc,ct,cx,nt,nx',bud,hat,_⟩:=h.at'
 obtain ⟨hlt,hBO⟩:=h.len
 have e0:r=0∨r=1∨r=2∨r=3∨(4≤r∧r≤7)∨r=8∨r=9∨r=10∨r=11∨r=12∨r=13∨r=14∨r=15:=by omega
 rcases e0 with rfl | rfl | rfl | rfl | h4 | rfl | rfl | rfl | rfl | rfl | rfl | rfl | rfl
 ·obtain ⟨r2,O1,nx,g1,g2,g3,g4,g5,g6⟩:=h.next hb (x:=3) (by decide) (by decide)
  obtain ⟨O2,m2,p2,l2,u2,e2⟩:=s150 g2 hb (by omega) (op:=21) (nn:=r2)
  obtain ⟨m',q1,q2,q3⟩:=nx_min g5 l2
  refine ⟨O2,m',_,.load r2 (by omega),p2.le (by omega),q1,by omega,fun w c=>?_⟩
  simp (disch:=omega) [code151B0,hat,g6,e2,q3]
 ·obtain ⟨r2,O1,nx,g1,g2,g3,g4,g5,g6⟩:=h.next hb (x:=3) (by decide) (by decide)
  obtain ⟨O2,m2,p2,l2,u2,e2⟩:=s150 g2 hb (by omega) (op:=21) (nn:=r2)
  obtain ⟨m',q1,q2,q3⟩:=nx_min g5 l2
  refine ⟨O2,m',_,.load r2 (by omega),p2.le (by omega),q1,by omega,fun w c=>?_⟩
  simp (disch:=omega) [code151B0,hat,g6,e2,q3]
 ·obtain ⟨r2,O1,nx,g1,g2,g3,g4,g5,g6⟩:=h.next hb (x:=256) (by decide) (by decide)
  obtain ⟨O2,m2,p2,l2,u2,e2⟩:=s153 g2 hb (by omega) (x:=r2 - 100) (by omega) (by omega)
  obtain ⟨m',q1,q2,q3⟩:=nx_min g5 l2
  refine ⟨O2,m',_,.num _ (by omega) (by omega),p2.le (by omega),q1,by omega,fun w c=>?_⟩
  simp (disch:=omega) [code151B0,hat,g6,e2,q3]
 ·obtain ⟨O2,m2,p2,l2,u2,e2⟩:=s154 h hb (by omega) (op:=178) (c:=[77,97,105,110]) (m:=[115]) (d:=[73]) (by decide) (by decide) (by decide)
  refine ⟨O2,m2,_,.stat,p2.le (by omega),l2,u2,fun w c=>?_⟩
  simp (disch:=omega) [code151B0,hat,e2]
 ·have hrj:=hrj h4.1
  have hi:=hi h4.1
  obtain ⟨O1,m1,⟨n1,k1,p1⟩,l1,u1,e1⟩:=hi O X k h (by omega)
  obtain ⟨O2,m2,⟨n2,k2,p2⟩,l2,u2,e2⟩:=hi O1 _ _ p1 (by omega)
  obtain ⟨r2,O3,nx,g1,g2,g3,g4,g5,g6⟩:=(p2.app [.cells 1 (acts151.map (AVal.int .u8))]).next hb (x:=10) (by decide) (by decide)
  obtain ⟨y,hy,hym⟩:=bytes_get acts151 (r:=r2) (by simp only [acts151,bp,a7]; omega)
  obtain ⟨O4,m4,p4,l4,u4,e4⟩:=s150 g2 hb (by omega) (op:=y) (nn:=0)
  obtain ⟨m',q1,q2,q3⟩:=nx_min g5 l4
  obtain ⟨_,_,_,_,_,_,_,_,_,hat2,_⟩:=p2.at'
  have hlen2:=p2.len
  have hat2:=fun X=>(ag (l₂:=X) hlen2.2).trans hat2
  have g7:=g4 O2.length (by omega)
  rw [dh] at g7
  simp only [acts151,cr,gg] at g6 g7 hy
  have hc:(r:Int)=4∨(r:Int)=5∨(r:Int)=6∨(r:Int)=7:=by omega
  refine ⟨O4,min m1 (min m2 m'),_,.bin y _ _ hym k1 k2,by have:=p4.le (k':=k+j) (by omega); rw [WX.add_add,WX.add_add] at this; exact this,by omega,by omega,fun w c=>?_⟩
  rcases hc with hc | hc | hc | hc <;> simp (disch:=omega) [code151B0,hc,hx1,e1,e2,hat2,g6,g7,hy,e4,q3,aq]
 ·have hrj:=hrj (by decide)
  obtain ⟨O1,m1,⟨n1,k1,p1⟩,l1,u1,e1⟩:=hl (by decide) O X k h (by omega)
  obtain ⟨O2,m2,p2,l2,u2,e2⟩:=s150 p1 hb (by omega) (op:=136) (nn:=0)
  refine ⟨O2,min m1 m2,_,.l2i _ k1,by have:=p2.le (k':=k+j) (by omega); rw [WX.add_add] at this; exact this,by omega,by omega,fun w c=>?_⟩
  simp (disch:=omega) [code151B0,hx1,e1,e2,aq]
 ·have hrj:=hrj (by decide)
  obtain ⟨O1,m1,p1,l1,u1,e1⟩:=s150 h hb (by omega) (op:=25) (nn:=6)
  obtain ⟨O2,m2,⟨n2,k2,p2⟩,l2,u2,e2⟩:=hi (by decide) O1 _ _ p1 (by omega)
  obtain ⟨O3,m3,p3,l3,u3,e3⟩:=s150 p2 hb (by omega) (op:=46) (nn:=0)
  refine ⟨O3,min m1 (min m2 m3),_,.iaload _ k2,by have:=p3.le (k':=k+j) (by omega); rw [WX.add_add,WX.add_add] at this; exact this,by omega,by omega,fun w c=>?_⟩
  simp (disch:=omega) [code151B0,hx1,e1,e2,e3,aq]
 ·have hrj:=hrj (by decide)
  obtain ⟨O1,m1,p1,l1,u1,e1⟩:=s150 h hb (by omega) (op:=25) (nn:=5)
  obtain ⟨O2,m2,p2,l2,u2,e2⟩:=s154 p1 hb (by omega) (op:=180) (c:=[65]) (m:=[102]) (d:=[73]) (by decide) (by decide) (by decide)
  refine ⟨O2,min m1 m2,_,.field,by have:=p2.le (k':=k+j) (by omega); rw [WX.add_add] at this; exact this,by omega,by omega,fun w c=>?_⟩
  simp (disch:=omega) [code151B0,hx1,e1,e2,aq]
 ·have hrj:=hrj (by decide)
  obtain ⟨O1,m1,p1,l1,u1,e1⟩:=s150 h hb (by omega) (op:=25) (nn:=5)
  obtain ⟨O2,m2,⟨n2,k2,p2⟩,l2,u2,e2⟩:=hi (by decide) O1 _ _ p1 (by omega)
  obtain ⟨O3,m3,p3,l3,u3,e3⟩:=s154 p2 hb (by omega) (op:=182) (c:=[65]) (m:=[118]) (d:=[40,73,41,73]) (by decide) (by decide) (by decide)
  refine ⟨O3,min m1 (min m2 m3),_,.callv _ k2,by have:=p3.le (k':=k+j) (by omega); rw [WX.add_add,WX.add_add] at this; exact this,by omega,by omega,fun w c=>?_⟩
  simp (disch:=omega) [code151B0,hx1,e1,e2,e3,aq]
 ·have hrj:=hrj (by decide)
  obtain ⟨O2,m2,⟨n2,k2,p2⟩,l2,u2,e2⟩:=hi (by decide) O _ _ h (by omega)
  obtain ⟨O3,m3,p3,l3,u3,e3⟩:=s154 p2 hb (by omega) (op:=184) (c:=[77,97,105,110]) (m:=[104,101,108,112]) (d:=[40,73,41,73]) (by decide) (by decide) (by decide)
  refine ⟨O3,min m2 m3,_,.callh _ k2,by have:=p3.le (k':=k+j) (by omega); rw [WX.add_add] at this; exact this,by omega,by omega,fun w c=>?_⟩
  simp (disch:=omega) [code151B0,hx1,e2,e3,aq]
 ·have hrj:=hrj (by decide)
  obtain ⟨r2,O1,nx,g1,g2,g3,g4,g5,g6⟩:=h.next hb (x:=2) (by decide) (by decide)
  obtain ⟨O2,m2,p2,l2,u2,e2⟩:=s150 g2 hb (by omega) (op:=25) (nn:=6+r2)
  obtain ⟨O3,m3,p3,l3,u3,e3⟩:=s150 p2 hb (by omega) (op:=190) (nn:=0)
  obtain ⟨m',q1,q2,q3⟩:=nx_min g5 l2
  refine ⟨O3,min m' m3,_,.alen r2 (by omega),by have:=p3.le (k':=k+j) (by omega); rw [WX.add_add] at this; exact this,by omega,by omega,fun w c=>?_⟩
  simp (disch:=omega) [code151B0,hat,g6,e2,e3,q3,aq]
 ·have hrj:=hrj (by decide)
  obtain ⟨O1,m1,p1,l1,u1,e1⟩:=s150 h hb (by omega) (op:=25) (nn:=5)
  obtain ⟨pc,pt,px,cc,ct,cx,nt,nx,bud,cs,h1,h6,h9,h7,hkw,_,_,h8⟩:=p1.put (b:=b) (x:=⟨193,0,0,[66],[],[],[]⟩) hb (by omega) ⟨by decide,by decide,by decide,by decide⟩
  simp only [InsU.cells] at h7
  refine ⟨_,min m1 B.length,_,.inst,by have:=h8.le (k':=k+j) (by omega); rw [WX.add_add] at this; exact this,by omega,by omega,fun w c=>?_⟩
  simp (disch:=omega) [code151B0,hx1,e1,-aAppend,h1,h7,h6,h9,hkw,InsU.cells,aq]
 ·have hrj:=hrj (by decide)
  obtain ⟨O1,m1,⟨n1,k1,p1⟩,l1,u1,e1⟩:=hl (by decide) O X k h (by omega)
  obtain ⟨O2,m2,⟨n2,k2,p2⟩,l2,u2,e2⟩:=hl (by decide) O1 _ _ p1 (by omega)
  obtain ⟨O3,m3,p3,l3,u3,e3⟩:=s150 p2 hb (by omega) (op:=148) (nn:=0)
  refine ⟨O3,min m1 (min m2 m3),_,.lcmp _ _ k1 k2,by have:=p3.le (k':=k+j) (by omega); rw [WX.add_add,WX.add_add] at this; exact this,by omega,by omega,fun w c=>?_⟩
  simp (disch:=omega) [code151B0,hx1,e1,e2,e3,aq]
theorem s151_of (hb:b≤tN) {d:Nat} {x:Int} (hx:-9≤x) (hx2:x≤9) {j:Nat} (hj1:1≤j) (hj:0 < x→2*KK d+1≤j)
  (hi:0 < x→Expr GI tN tb tv B b dep 151 (x - 1) (KK d)) (hl:0 < x→Expr GL tN tb tv B b dep 183 (x - 1) (KK d)):Expr GI tN tb tv B b dep 151 x j:=by
 intro O X k h hk
 obtain ⟨pc,pt,px,cc,ct,cx,nt,nx',bud,hat,hset⟩:=h.at'
 obtain ⟨hlt,hBO⟩:=h.len
 have h1:=hset dep (IntKind.i64.wrap (bud - 1))
 obtain ⟨r,O2,nx,g1,g2,g3,g4,g5,g6⟩:=h1.next hb (x:=16) (by decide) (by decide)
 have hat2:=g4 B.length (by omega)
 rw [a9,if_pos rfl,if_pos hBO] at hat2
 have hset2:∀ y,(O.set B.length y)[B.length]? = some y:=fun y=>by rw [a9,if_pos rfl,if_pos hBO]
 have hr4:(r:Int).tmod 4=((r % 4:Nat):Int):=by rw [jb (by omega)]; omega
 by_cases c1:x≤0
 ·obtain ⟨O3,m3,n3,k3,p3,l3,u3,e3⟩:=sw151 (d:=d) hb hx hx2 g2 hj1 hk (r:=r % 4) (by omega) (fun h=>by omega) (fun h=>by omega) (fun h=>by omega)
  obtain ⟨m',q1,q2,q3⟩:=nx_min g5 l3
  have hmm:min B.length m'=m':=by omega
  refine ⟨O3,m',⟨n3,k3,p3⟩,q1,by omega,fun w=>?_⟩
  simp only [Int.natCast_emod,b7] at e3
  simp (disch:=omega) [az t151,code151,hat,hset2,g6,hat2,c1,hr4,e3,q3,hmm]
 ·by_cases c2:IntKind.i64.wrap (bud - 1)≤0
  ·obtain ⟨O3,m3,n3,k3,p3,l3,u3,e3⟩:=sw151 (d:=d) hb hx hx2 g2 hj1 hk (r:=r % 4) (by omega) (fun h=>by omega) (fun h=>by omega) (fun h=>by omega)
   obtain ⟨m',q1,q2,q3⟩:=nx_min g5 l3
   have hmm:min B.length m'=m':=by omega
   refine ⟨O3,m',⟨n3,k3,p3⟩,q1,by omega,fun w=>?_⟩
   simp only [Int.natCast_emod,b7] at e3
   simp (disch:=omega) [az t151,code151,hat,hset2,g6,hat2,c1,c2,hr4,e3,q3,hmm]
  ·obtain ⟨O3,m3,n3,k3,p3,l3,u3,e3⟩:=sw151 (d:=d) hb hx hx2 g2 hj1 hk (r:=r) (by omega) (fun _=>hj (by omega)) (fun _=>hi (by omega)) (fun _=>hl (by omega))
   obtain ⟨m',q1,q2,q3⟩:=nx_min g5 l3
   have hmm:min B.length m'=m':=by omega
   refine ⟨O3,m',⟨n3,k3,p3⟩,q1,by omega,fun w=>?_⟩
   simp (disch:=omega) [az t151,code151,hat,hset2,g6,hat2,c1,c2,e3,q3,hmm]
theorem s183_of (hb:b≤tN) {i l j:Nat} {x:Int} (hx:-8≤x) (hx2:x≤9) (hj1:i+1≤j) (hj:0 < x→2*l+1≤j∧l+i+1≤j)
  (hi:Expr GI tN tb tv B b dep 151 (x - 1) i) (hl:0 < x→Expr GL tN tb tv B b dep 183 (x - 1) l):Expr GL tN tb tv B b dep 183 x j:=by
 intro O X k h hk
 have hx1:IntKind.i64.wrap (x - 1)=x - 1:=cf (by omega)
 obtain ⟨hlt,hBO⟩:=h.len
 obtain ⟨_,_,_,_,_,_,_,_,_,hat,_⟩:=h.at'
 obtain ⟨r,O1,nx1,f1,f2,f3,f4,f5,f6⟩:=h.next hb (x:=6) (by decide) (by decide)
 have hBO1:=f2.len.2
 obtain ⟨_,_,_,_,_,_,_,_,_,hat1,_⟩:=f2.at'
 by_cases c1:0 < x∧r < 2
 ·obtain ⟨c1,c2⟩:=c1
  obtain ⟨j1,j2⟩:=hj c1
  have hc:(r:Int) < 2:=by omega
  obtain ⟨O2,m2,⟨n2,k2,p2⟩,l2,u2,e2⟩:=hl c1 O1 X k f2 (by omega)
  obtain ⟨O3,m3,⟨n3,k3,p3⟩,l3,u3,e3⟩:=hl c1 O2 _ _ p2 (by omega)
  obtain ⟨r2,O4,nx,g1,g2,g3,g4,g5,g6⟩:=(p3.app [.cells 1 (acts183.map (AVal.int .u8))]).next hb (x:=8) (by decide) (by decide)
  obtain ⟨y,hy,hym⟩:=bytes_get acts183 (r:=r2) (by simp only [acts183,bp,a7]; omega)
  obtain ⟨O5,m5,p5,l5,u5,e5⟩:=s150 g2 hb (by omega) (op:=y) (nn:=0)
  obtain ⟨m',q1,q2,q3⟩:=nx_min g5 l5
  obtain ⟨m'',q4,q5,q6⟩:=nx_min f5 l2
  obtain ⟨_,_,_,_,_,_,_,_,_,hat3,_⟩:=p3.at'
  have hlen3:=p3.len
  have hat3:=fun X=>(ag (l₂:=X) hlen3.2).trans hat3
  have g7:=g4 O3.length (by omega)
  rw [dh] at g7
  simp only [acts183,cr,gg] at g6 g7 hy
  refine ⟨O5,min m'' (min m3 m'),⟨_,.bin y _ _ hym k2 k3,by have:=p5.le (k':=k+j) (by omega); rw [WX.add_add,WX.add_add] at this; exact this⟩,by omega,by omega,fun w=>?_⟩
  have hmm:∀ w,min w (min O.length (min m'' (min m3 m')))=min w (min m'' (min m3 m')):=fun w=>by omega
  rw [az t183]; simp (disch:=omega) [code183,code183B0,hat,f6,c1,hc,hx1,e2,e3,hat3,g6,g7,hy,e5,q3,q6,hmm,aq]
 ·by_cases c2:0 < x∧r=2
  ·obtain ⟨c2,rfl⟩:=c2
   obtain ⟨j1,j2⟩:=hj c2
   obtain ⟨O2,m2,⟨n2,k2,p2⟩,l2,u2,e2⟩:=hl c2 O1 X k f2 (by omega)
   obtain ⟨O3,m3,⟨n3,k3,p3⟩,l3,u3,e3⟩:=hi O2 _ _ p2 (by omega)
   obtain ⟨r2,O4,nx,g1,g2,g3,g4,g5,g6⟩:=(p3.app [.cells 1 (acts183b.map (AVal.int .u8))]).next hb (x:=3) (by decide) (by decide)
   obtain ⟨y,hy,hym⟩:=bytes_get acts183b (r:=r2) (by simp only [acts183b,bp,a7]; omega)
   obtain ⟨O5,m5,p5,l5,u5,e5⟩:=s150 g2 hb (by omega) (op:=y) (nn:=0)
   obtain ⟨m',q1,q2,q3⟩:=nx_min g5 l5
   obtain ⟨m'',q4,q5,q6⟩:=nx_min f5 l2
   obtain ⟨_,_,_,_,_,_,_,_,_,hat3,_⟩:=p3.at'
   have hlen3:=p3.len
   have hat3:=fun X=>(ag (l₂:=X) hlen3.2).trans hat3
   have g7:=g4 O3.length (by omega)
   rw [dh] at g7
   simp only [acts183b,cr,gg] at g6 g7 hy
   refine ⟨O5,min m'' (min m3 m'),⟨_,.shift y _ _ hym k2 k3,by have:=p5.le (k':=k+j) (by omega); rw [WX.add_add,WX.add_add] at this; exact this⟩,by omega,by omega,fun w=>?_⟩
   have hmm:∀ w,min w (min O.length (min m'' (min m3 m')))=min w (min m'' (min m3 m')):=fun w=>by omega
   rw [az t183]; simp (disch:=omega) [code183,code183B0,hat,f6,c2,hx1,e2,e3,hat3,g6,g7,hy,e5,q3,q6,hmm,aq]
  ·have hd:∀ z:List AVal,True:=fun _=>trivial
   by_cases c3:r=3
   ·subst c3
    obtain ⟨O5,m5,p5,l5,u5,e5⟩:=s150 f2 hb (by omega) (op:=22) (nn:=3)
    obtain ⟨m'',q4,q5,q6⟩:=nx_min f5 l5
    refine ⟨O5,m'',⟨_,.load,p5.le (by omega)⟩,by omega,by omega,fun w=>?_⟩
    have hmm:∀ w,min w (min O.length m'')=min w m'':=fun w=>by omega
    by_cases c4:0 < x
    ·rw [az t183]; simp (disch:=omega) [code183,code183B0,hat,f6,c4,e5,q6,hmm,aq]
    ·rw [az t183]; simp (disch:=omega) [code183,code183B0,hat,f6,c4,e5,q6,hmm,aq]
   ·by_cases c4:r=4
    ·subst c4
     exact k4_183 hb h f2 f5 f6 hat (by omega) (by omega)
    ·have hc:¬ (r:Int) < 2∨¬ 0 < x:=by omega
     obtain ⟨O2,m2,⟨n2,k2,p2⟩,l2,u2,e2⟩:=hi O1 X k f2 (by omega)
     obtain ⟨O5,m5,p5,l5,u5,e5⟩:=s150 p2 hb (by omega) (op:=133) (nn:=0)
     obtain ⟨m'',q4,q5,q6⟩:=nx_min f5 l2
     have hmm:∀ w,min w (min O.length (min m'' m5))=min w (min m'' m5):=fun w=>by omega
     have n3:¬ (r:Int)=3:=by omega
     have n4:¬ (r:Int)=4:=by omega
     refine ⟨O5,min m'' m5,⟨_,.i2l _ k2,by have:=p5.le (k':=k+j) (by omega); rw [WX.add_add] at this; exact this⟩,by omega,by omega,fun w=>?_⟩
     by_cases c5:0 < x
     ·have n1:¬ (r:Int) < 2:=by omega
      have n2:¬ (r:Int)=2:=by omega
      rw [az t183]; simp (disch:=omega) [code183,code183B0,hat,f6,c5,n1,n2,n3,n4,hx1,e2,e5,q6,hmm,aq]
     ·rw [az t183]; simp (disch:=omega) [code183,code183B0,hat,f6,c5,n3,n4,hx1,e2,e5,q6,hmm,aq]
end
theorem expr_all (hb:b≤tN):∀ (d:Nat) (x:Int),-9≤x→x≤9→x≤d→Expr GI tN tb tv B b dep 151 x (KK d)∧(-8≤x→Expr GL tN tb tv B b dep 183 x (KK d))
 | 0,x,h1,h2,h3=>⟨s151_of (d:=0) hb h1 h2 (by decide) (fun h=>by omega) (fun h=>by omega) (fun h=>by omega),fun h4 =>
   s183_of (i:=1) (l:=0) hb h4 h2 (by decide) (fun h=>by omega) (s151_of (d:=0) hb (by omega) (by omega) (by decide) (fun h=>by omega) (fun h=>by omega) (fun h=>by omega)) (fun h=>by omega)⟩
 | d+1,x,h1,h2,h3=>by
  have hp:=KK_pos d
  refine ⟨s151_of (d:=d) hb h1 h2 (by simp only [KK]; omega) (fun h=>by simp only [KK]; omega) (fun h=>(expr_all hb d (x - 1) (by omega) (by omega) (by omega)).1) (fun h=>(expr_all hb d (x - 1) (by omega) (by omega) (by omega)).2 (by omega)),fun h4=>?_⟩
  exact s183_of (i:=KK d) (l:=KK d) hb h4 h2 (by simp only [KK]; omega) (fun h=>⟨by simp only [KK]; omega,by simp only [KK]; omega⟩) (expr_all hb d (x - 1) (by omega) (by omega) (by omega)).1 (fun h=>(expr_all hb d (x - 1) (by omega) (by omega) (by omega)).2 (by omega))
end Go.Abs.AbsMk

namespace Go.Abs.AbsMk
open Go.Abs.AbsMake
open Go.Abs.AbsDesc hiding T
open Go.Abs.AbsHier hiding T sub
variable {os O B:List AObj} {b w:Nat} {tN:Nat} {tb:List UInt8} {tv:AVal} {dep:Int} {X:WX} {k:Nat}
def Act (Q:WX→WX→Prop) (tN:Nat) (tb:List UInt8) (tv:AVal) (B:List AObj) (b:Nat) (dep:Int) (g:Nat) (args:List AVal) (j:Nat):Prop :=
 ∀ (O:List AObj) (X:WX) (k:Nat),Ws tN tb tv B O X k dep→k+j≤100000→Did tN tb tv B b g args (.tuple []) O fun O'=>∃ X',Q X X'∧Ws tN tb tv B O' X' (k+j) dep
def Flat (G:List InsU→Prop) (X X':WX):Prop:=∃ E,G E∧X'=X.add E
theorem Ws.setN (h:Ws tN tb tv B O X k dep) {i n':Nat} (hi:i < X.C.length) {a0 a2 a3 a4 a5:AVal} {pc:Option (Nat × Nat)} {cc:Option Nat} (hat:O[B.length]? = some (.cells 6 [a0,.slice pc n' cc,a2,a3,a4,a5])) :
  ∃ q cs,pc=some (q,0)∧n'=X.C.length∧B.length < q∧q < O.length∧O[q]? = some (.cells 7 cs)∧cs.length=X.C.length*7∧∀ z:Int,Ws tN tb tv B (O.set q (.cells 7 (cs.take (i*7+1) ++ .int .i64 z :: cs.drop (i*7+2)))) (X.setN i z) k dep:=by
 obtain ⟨pc',pt,px,cc',ct,cx,M,bud,hW,hMk,h2,h3,h4⟩:=h.ex
 have e:=hat.symm.trans hW.wr
 simp only [wrO,ap,AObj.cells.injEq,eb,AVal.slice.injEq,true_and,and_true] at e
 obtain ⟨_,⟨e1,e2,e3⟩,_⟩:=e
 subst e1 e2 e3
 cases pc with
 | none=>have:=(hW.c.none rfl).1; rw [this] at hi; simp at hi
 | some q =>
  obtain ⟨q,o⟩:=q
  obtain ⟨h5,h6,h7,h8⟩:=hW.c.some q o rfl
  subst h5
  have hlen:(X.C.flatMap InsU.cells).length=X.C.length*7:=flat_len InsU.cells 7 (fun _=>rfl) X.C
  refine ⟨q,_,rfl,rfl,h7,ah h8,h8,hlen,fun z=>?_⟩
  have hW':=hW.setN rfl hi z
  have hc:i*7+1 < (X.C.flatMap InsU.cells).length:=by rw [hlen]; omega
  have hs:(X.C.flatMap InsU.cells).set (i*7+1) (.int .i64 z)=(X.C.flatMap InsU.cells).take (i*7+1) ++ .int .i64 z :: (X.C.flatMap InsU.cells).drop (i*7+2):=by rw [List.set_eq_take_append_cons_drop,if_pos hc]
  rw [hs] at hW'
  exact ⟨_,_,_,_,_,_,_,_,hW',hMk,by simp [WX.setN]; exact h2,h3,h4⟩
theorem s210 (h:Ws tN tb tv B O X k dep) (hb:b≤tN) (hk:k≤100000) {op:Int} :
  Did tN tb tv B b 210 [.ptr (some (B.length,0)),.int .u8 op] (.int .i64 X.C.length) O fun O'=>Ws tN tb tv B O' (X.add [opI op 0]) (k+1) dep:=by
 obtain ⟨hlt,hBO⟩:=h.len
 obtain ⟨O1,m1,p1,l1,u1,e1⟩:=s150 h hb hk (op:=op) (nn:=0)
 obtain ⟨_,_,_,_,_,_,_,_,_,hat1,_⟩:=p1.at'
 have hl1:(X.add [opI op 0]).C.length=X.C.length+1:=by simp [WX.add]
 obtain ⟨_,_,_,_,_,_,_,_,_,_,hn1,_⟩:=h.ex
 rw [hl1] at hat1
 refine ⟨O1,m1,p1,l1,u1,fun w=>?_⟩
 simp (disch:=omega) [-getElem?_pos,-getElem?_neg,-List.all_eq_true,gz,gs,nltT,nltF,iltT,iltF,ileT,nleT,cf,-sget,dy,dz,d7,az t210,code210,e1,hat1]
theorem natInt1 (r:Nat):((r:Int)=1)=(r=1):=by simp; omega
theorem natInt2 (r:Nat):((r:Int)=2)=(r=2):=by simp; omega
section
attribute [-simp] getElem?_pos getElem?_neg List.all_eq_true sget
attribute [local simp] gz gs nltT nltF iltT iltF ileT nleT cf dy dz d7
theorem sw184 (hb:b≤tN) (h:Ws tN tb tv B O X k dep) (hk:k+2≤100000) {r:Nat} :
  ∃ O' m E,GO E∧Ws tN tb tv B O' (X.add E) (k+2) dep∧tN≤m∧m≤B.length∧∀ (w:Nat) (c:AExit→St→Option (AVal × Heap)),
   xK T code184B0 ⟨[(0,.val (.ptr (some (B.length,0)))),(6,.val (.int .i64 r))],⟨O,b,w⟩⟩ (k:=⟨c⟩)=c .normal ⟨[],⟨O',b,min w m⟩⟩:=by
 obtain ⟨hlt,hBO⟩:=h.len
 have c4:r=0∨r=1∨r=2∨(¬ r=0∧¬ r=1∧¬ r=2):=by omega
 rcases c4 with rfl | rfl | rfl | ⟨c1,c2,c3⟩
 ·obtain ⟨O2,m2,p2,l2,u2,e2⟩:=s150 h hb (by omega) (op:=1) (nn:=0)
  refine ⟨O2,m2,_,.null,p2.le (by omega),l2,u2,fun w c=>?_⟩
  simp (disch:=omega) [code184B0,e2]
 ·obtain ⟨pc,pt,px,cc,ct,cx,nt,nx,bud,cs,h1,h6,h9,h7,hkw,_,_,h8⟩:=h.put (b:=b) (x:=⟨187,0,0,[66],[],[],[]⟩) hb (by omega) ⟨by decide,by decide,by decide,by decide⟩
  simp only [InsU.cells] at h7
  refine ⟨_,B.length,_,.newB,h8.le (by omega),by omega,by omega,fun w c=>?_⟩
  simp (disch:=omega) [code184B0,-aAppend,h1,h7,h6,h9,hkw,InsU.cells]
 ·obtain ⟨O1,m1,p1,l1,u1,e1⟩:=s150 h hb (by omega) (op:=25) (nn:=5)
  obtain ⟨pc,pt,px,cc,ct,cx,nt,nx,bud,cs,h1,h6,h9,h7,hkw,_,_,h8⟩:=p1.put (b:=b) (x:=⟨192,0,0,[66],[],[],[]⟩) hb (by omega) ⟨by decide,by decide,by decide,by decide⟩
  simp only [InsU.cells] at h7
  refine ⟨_,min m1 B.length,_,.cast,by have:=h8.le (k':=k+2) (by omega); rw [WX.add_add] at this; exact this,by omega,by omega,fun w c=>?_⟩
  simp (disch:=omega) [code184B0,e1,-aAppend,h1,h7,h6,h9,hkw,InsU.cells,aq]
 ·obtain ⟨pc,pt,px,cc,ct,cx,nt,nx,bud,cs,h1,h6,h9,h7,hkw,_,_,h8⟩:=h.put (b:=b) (x:=⟨187,0,0,[65],[],[],[]⟩) hb (by omega) ⟨by decide,by decide,by decide,by decide⟩
  simp only [InsU.cells] at h7
  refine ⟨_,B.length,_,.newA,h8.le (by omega),by omega,by omega,fun w c=>?_⟩
  simp (disch:=omega) [code184B0,c1,natInt1,c2,natInt2,c3,-aAppend,h1,h7,h6,h9,hkw,InsU.cells]
theorem s184 (hb:b≤tN):Act (Flat GO) tN tb tv B b dep 184 [.ptr (some (B.length,0))] 2:=fun O X k h hk=>by
 obtain ⟨hlt,hBO⟩:=h.len
 obtain ⟨_,_,_,_,_,_,_,_,_,hat,_⟩:=h.at'
 obtain ⟨r,O1,nx1,f1,f2,f3,f4,f5,f6⟩:=h.next hb (x:=5) (by decide) (by decide)
 obtain ⟨O2,m2,n2,q1,p2,l2,u2,e2⟩:=sw184 hb f2 hk (r:=r)
 obtain ⟨m',q4,q5,q6⟩:=nx_min f5 l2
 have hmm:∀ w,min w (min O.length m')=min w m':=fun w=>by omega
 have hm2:min O.length m'=m':=by omega
 refine ⟨O2,m',⟨_,⟨n2,q1,rfl⟩,p2⟩,q4,by omega,fun w=>?_⟩
 simp (disch:=omega) [az t184,code184,hat,f6,e2,q6,hmm,hm2]
theorem sw188 (hb:b≤tN) (h:Ws tN tb tv B O X k dep) (hk:k+(KK 1+2)≤100000) {r:Nat} :
  ∃ O' m E,GR E∧Ws tN tb tv B O' (X.add E) (k+(KK 1+2)) dep∧tN≤m∧m≤B.length∧∀ (w:Nat) (c:AExit→St→Option (AVal × Heap)),
   xK T code188B0 ⟨[(0,.val (.ptr (some (B.length,0)))),(6,.val (.int .i64 r))],⟨O,b,w⟩⟩ (k:=⟨c⟩)=c .normal ⟨[],⟨O',b,min w m⟩⟩:=by
 have hKK:KK 1=5:=rfl
 have h151:Expr GI tN tb tv B b dep 151 1 (KK 1):=(expr_all hb 1 1 (by decide) (by decide) (by decide)).1
 have c4:r=0∨r=1∨r=2∨(¬ r=0∧¬ r=1∧¬ r=2):=by omega
 rcases c4 with rfl | rfl | rfl | ⟨c1,c2,c3⟩
 ·obtain ⟨O1,m1,p1,l1,u1,e1⟩:=s150 h hb (by omega) (op:=25) (nn:=7)
  obtain ⟨O2,m2,p2,l2,u2,e2⟩:=s154 p1 hb (by omega) (op:=184) (c:=[115,121,115]) (m:=[97,100,100]) (d:=[40,91,66,41,73]) (by decide) (by decide) (by decide)
  obtain ⟨O3,m3,p3,l3,u3,e3⟩:=s150 p2 hb (by omega) (op:=54) (nn:=1)
  refine ⟨O3,min m1 (min m2 m3),_,.add,by have:=p3.le (k':=k+(KK 1+2)) (by omega); rw [WX.add_add,WX.add_add] at this; exact this,by omega,by omega,fun w c=>?_⟩
  simp (disch:=omega) [code188B0,e1,e2,e3,aq]
 ·obtain ⟨O1,m1,⟨n1,k1,p1⟩,l1,u1,e1⟩:=h151 O X k h (by omega)
  obtain ⟨O2,m2,p2,l2,u2,e2⟩:=s154 p1 hb (by omega) (op:=184) (c:=[115,121,115]) (m:=[103,101,116]) (d:=[40,73,41,91,66]) (by decide) (by decide) (by decide)
  obtain ⟨O3,m3,p3,l3,u3,e3⟩:=s150 p2 hb (by omega) (op:=58) (nn:=7)
  refine ⟨O3,min m1 (min m2 m3),_,.get _ k1,by have:=p3.le (k':=k+(KK 1+2)) (by omega); rw [WX.add_add,WX.add_add] at this; exact this,by omega,by omega,fun w c=>?_⟩
  simp (disch:=omega) [code188B0,e1,e2,e3,aq]
 ·obtain ⟨O1,m1,⟨n1,k1,p1⟩,l1,u1,e1⟩:=h151 O X k h (by omega)
  obtain ⟨O2,m2,p2,l2,u2,e2⟩:=s150 p1 hb (by omega) (op:=25) (nn:=7)
  obtain ⟨O3,m3,p3,l3,u3,e3⟩:=s154 p2 hb (by omega) (op:=184) (c:=[115,121,115]) (m:=[115,101,116]) (d:=[40,73,91,66,41,86]) (by decide) (by decide) (by decide)
  refine ⟨O3,min m1 (min m2 m3),_,.set _ k1,by have:=p3.le (k':=k+(KK 1+2)) (by omega); rw [WX.add_add,WX.add_add] at this; exact this,by omega,by omega,fun w c=>?_⟩
  simp (disch:=omega) [code188B0,e1,e2,e3,aq]
 ·obtain ⟨O2,m2,p2,l2,u2,e2⟩:=s154 h hb (by omega) (op:=184) (c:=[115,121,115]) (m:=[99,111,117,110,116]) (d:=[40,41,73]) (by decide) (by decide) (by decide)
  obtain ⟨O3,m3,p3,l3,u3,e3⟩:=s150 p2 hb (by omega) (op:=54) (nn:=1)
  refine ⟨O3,min m2 m3,_,.count,by have:=p3.le (k':=k+(KK 1+2)) (by omega); rw [WX.add_add] at this; exact this,by omega,by omega,fun w c=>?_⟩
  simp (disch:=omega) [code188B0,c1,natInt1,c2,natInt2,c3,e2,e3,aq]
theorem s188 (hb:b≤tN):Act (Flat GR) tN tb tv B b dep 188 [.ptr (some (B.length,0))] (KK 1+2):=fun O X k h hk=>by
 obtain ⟨hlt,hBO⟩:=h.len
 obtain ⟨_,_,_,_,_,_,_,_,_,hat,_⟩:=h.at'
 obtain ⟨r,O1,nx1,f1,f2,f3,f4,f5,f6⟩:=h.next hb (x:=4) (by decide) (by decide)
 obtain ⟨O2,m2,n2,q1,p2,l2,u2,e2⟩:=sw188 hb f2 hk (r:=r)
 obtain ⟨m',q4,q5,q6⟩:=nx_min f5 l2
 have hm2:min O.length m'=m':=by omega
 refine ⟨O2,m',⟨_,⟨n2,q1,rfl⟩,p2⟩,q4,by omega,fun w=>?_⟩
 simp (disch:=omega) [az t188,code188,hat,f6,e2,q6,hm2]
end
end Go.Abs.AbsMk

namespace Go.Abs.AbsMk
open Go.Abs.AbsMake
open Go.Abs.AbsDesc hiding T
open Go.Abs.AbsHier hiding T sub
variable {os O B:List AObj} {b w:Nat} {tN:Nat} {tb:List UInt8} {tv:AVal} {dep:Int} {X:WX} {k:Nat}
def itS:Nat→WX→WX→Prop
 | 0,X,Z=>Z=X
 | i+1,X,Z=>∃ Y,GS X Y∧itS i Y Z
theorem itS_more:∀ (i:Nat) {X Y Z:WX},GSs X Y→itS i Y Z→GSs X Z
 | 0,_,_,_,h,e=>by rw [show _=_ from e]; exact h
 | i+1,_,_,_,h,⟨W,h1,h2⟩=>itS_more i (.more _ _ _ h h1) h2
theorem itS_some {i:Nat} {X Z:WX} (h:itS (i+1) X Z):GSs X Z:=by
 obtain ⟨Y,h1,h2⟩:=h
 exact itS_more i (.one _ _ h1) h2
section
attribute [-simp] getElem?_pos getElem?_neg List.all_eq_true sget
attribute [local simp] gz gs nltT nltF iltT iltF ileT nleT cf dy dz d7
theorem l209 (_:b≤tN) {j:Nat} (hs:Act GS tN tb tv B b dep 152 [.ptr (some (B.length,0))] j):∀ (i:Nat) (O:List AObj) (X:WX) (k:Nat),i≤3→Ws tN tb tv B O X k dep→k+i*j≤100000 →
  ∃ O' m X',itS i X X'∧Ws tN tb tv B O' X' (k+i*j) dep∧tN≤m∧m≤B.length∧∀ (w:Nat) (c:AExit→St→Option (AVal × Heap)),w≤B.length →
   xK T (.loop code209L0) ⟨[(0,.val (.ptr (some (B.length,0)))),(2,.val (.int .i64 i))],⟨O,b,w⟩⟩ (k:=⟨c⟩)=c (.exit 0) ⟨[(0,.val (.ptr (some (B.length,0))))],⟨O',b,min w m⟩⟩
 | 0,O,X,k,_,h,hk=>by
  obtain ⟨hlt,hBO⟩:=h.len
  refine ⟨O,B.length,X,rfl,by simpa using h,by omega,aj _,fun w c hw=>?_⟩
  rw [dk]
  have hmm:min w B.length=w:=by omega
  simp (disch:=omega) [code209L0,hmm]
 | i+1,O,X,k,hi,h,hk=>by
  have hm:(i+1)*j=j+i*j:=by rw [dr,Nat.one_mul,Nat.add_comm]
  obtain ⟨O1,m1,⟨n1,q1,p1⟩,l1,u1,e1⟩:=hs O X k h (by omega)
  obtain ⟨O2,m2,n2,q2,p2,l2,u2,e2⟩:=l209 ‹_› hs i O1 n1 (k+j) (by omega) p1 (by omega)
  have ek:k+j+i*j=k+(i+1)*j:=by omega
  rw [ek] at p2
  refine ⟨O2,min m1 m2,n2,⟨n1,q1,q2⟩,p2,by omega,by omega,fun w c hw=>?_⟩
  have e2:=e2 (min w m1) c (by omega)
  rw [dk]
  have c1:(0:Int) < (i:Int)+1:=by omega
  generalize ACode.loop code209L0=L at e2 ⊢
  simp (disch:=omega) [code209L0,e1,e2,c1,aq]
theorem s209 (hb:b≤tN) (hd:0≤dep) (hd2:dep≤1000) {j:Nat} (hs:Act GS tN tb tv B b (dep+1) 152 [.ptr (some (B.length,0))] j):Act GSs tN tb tv B b dep 209 [.ptr (some (B.length,0))] (3*j):=fun O X k h hk=>by
 obtain ⟨hlt,hBO⟩:=h.len
 obtain ⟨pc,pt,px,cc,ct,cx,nt,nx',bud,hat,hset⟩:=h.at'
 have h1:=hset (dep+1) bud
 have hset2:∀ y,(O.set B.length y)[B.length]? = some y:=fun y=>by rw [a9,if_pos rfl,if_pos hBO]
 obtain ⟨r,O2,nx,g1,g2,g3,g4,g5,g6⟩:=h1.next hb (x:=3) (by decide) (by decide)
 have hmul:(r+1)*j≤3*j:=d9 _ (by omega)
 obtain ⟨O3,m3,n3,q3,p3,l3,u3,e3⟩:=l209 hb hs (r+1) O2 X k (by omega) g2 (by omega)
 obtain ⟨pc3,pt3,px3,cc3,ct3,cx3,nt3,nx3,bud3,hat3,hset3⟩:=p3.at'
 have h4:=hset3 dep bud3
 obtain ⟨m',q4,q5,q6⟩:=nx_min g5 l3
 have hnx:=nx_le g5 B.length
 have e3:=fun c=>e3 (nx B.length) c hnx
 simp only [Int.natCast_add,b7] at e3
 have er:(1:Int)+r=r+1:=by omega
 have w1:IntKind.i64.wrap (dep+1)=dep+1:=cf (by omega)
 have w2:IntKind.i64.wrap (dep+1 - 1)=dep:=by rw [Int.add_sub_cancel]; exact cf (by omega)
 have hmm:min m' B.length=m':=by omega
 have hmm2:min B.length m'=m':=by omega
 refine ⟨_,m',⟨n3,itS_some q3,h4.le (by omega)⟩,q4,by omega,fun w=>?_⟩
 simp (disch:=omega) [az t209,code209,hat,hset2,w1,g6,er,e3,hat3,w2,q6,hmm,hmm2]
end
end Go.Abs.AbsMk

namespace Go.Abs.AbsMk
open Go.Abs.AbsMake
open Go.Abs.AbsDesc hiding T
open Go.Abs.AbsHier hiding T sub
variable {os O B:List AObj} {b w:Nat} {tN:Nat} {tb:List UInt8} {tv:AVal} {dep:Int} {X:WX} {k:Nat}
theorem tail7 {i n:Nat} (hi:i < n) {cs:List AVal} (hl:cs.length=n*7):i*7+7≤cs.length∧i*7+1 < cs.length∧i*7+1+1≤cs.length:=by
 have:(i+1)*7≤n*7:=d9 _ hi
 omega
theorem Ws.aim (h:Ws tN tb tv B O X k dep) (hb:b≤tN) (hk:k+1≤100000) {i:Nat} (hi:i < X.C.length) :
  ∃ (O1:List AObj) (nx:Nat→Nat) (q:Nat) (cs:List AVal) (a0 a2 a3 a3' a4 a5:AVal) (cc:Option Nat),O[B.length]? = some (.cells 6 [a0,.slice (some (q,0)) X.C.length cc,a2,a3,a4,a5])∧O1[B.length]? = some (.cells 6 [a0,.slice (some (q,0)) X.C.length cc,a2,a3',a4,a5])∧O.length≤O1.length ∧
   ((∀ w,nx w=w)∨(∀ w,nx w=min w B.length))∧(∀ w,xCall T 100208 [.ptr (some (B.length,0)),.slice none 0 (some 0)] ⟨O,b,w⟩=some (.int .i64 X.C.length,⟨O1,b,nx w⟩)) ∧
   B.length < q∧q < O.length∧O1[q]? = some (.cells 7 cs)∧cs.length=X.C.length*7∧Ws tN tb tv B (O1.set q (.cells 7 (cs.take (i*7+1) ++ .int .i64 X.C.length :: cs.drop (i*7+2)))) (X.aim i) (k+1) dep:=by
 obtain ⟨pc,pt,px,cc,ct,cx,nt,nx',bud,hat,_⟩:=h.at'
 obtain ⟨O1,nx,a3',p1,hat1,hlen,hnx,e1⟩:=s208 h hb hk .nil hat
 obtain ⟨q,cs,h1,_,h3,h4,h5,h6,h7⟩:=p1.setN (by rw [ff]; exact hi) hat1
 rw [ff] at h6
 subst h1
 exact ⟨O1,nx,q,cs,_,_,_,a3',_,_,cc,hat,hat1,hlen,hnx,e1,h3,((h.lows hat).1 _ _ rfl).1,h5,h6,h7 X.C.length⟩
section
attribute [-simp] getElem?_pos getElem?_neg List.all_eq_true sget
attribute [local simp] gz gs nltT nltF iltT iltF ileT nleT cf dy dz d7
theorem r185a (h:Ws tN tb tv B O X k dep) (hb:b≤tN) (hk:k+1≤100000) {i:Nat} (hi:i < X.C.length) {z:AVal} :
  ∃ O',Ws tN tb tv B O' (X.aim i) (k+1) dep∧∀ (w:Nat) (c:AExit→St→Option (AVal × Heap)),w≤B.length →
   xK T code185R0 ⟨[(0,.val (.ptr (some (B.length,0)))),(2,.val (.int .i64 i)),(3,.val z)],⟨O,b,w⟩⟩ (k:=⟨c⟩)=c .normal ⟨[(0,.val (.ptr (some (B.length,0)))),(3,.val z)],⟨O',b,w⟩⟩:=by
 obtain ⟨hlt,hBO⟩:=h.len
 obtain ⟨O1,nx,q,cs,a0,a2,a3,a3',a4,a5,cc,hat,hat1,hlen,hnx,e1,h3,h4,h5,h6,h7⟩:=h.aim hb hk hi
 obtain ⟨t1,t2,t3⟩:=tail7 hi h6
 refine ⟨_,h7,fun w c hw=>?_⟩
 have hn1:X.C.length≤9223372036854775807:=by
  obtain ⟨_,_,_,_,_,_,_,_,_,_,hn,_⟩:=h.ex
  omega
 have hwl:nx O.length=O.length∨nx O.length=B.length:=by rcases hnx with g | g <;> rw [g] <;> omega
 have hm1:min w B.length=w:=by omega
 have hm2:min w q=w:=by omega
 have hm3:min w O.length=w:=by omega
 rcases hwl with hwl | hwl <;>
  simp (maxSteps:=3000000) (disch:=omega) [au,benign,again,AVal.eqb,code185R0,hat,e1,hat1,h5,hwl,hm1,hm2,hm3]
theorem r185b (h:Ws tN tb tv B O X k dep) (hb:b≤tN) (hk:k+1≤100000) {i:Nat} (hi:i < X.C.length) :
  ∃ O',Ws tN tb tv B O' (X.aim i) (k+1) dep∧∀ (w:Nat) (c:AExit→St→Option (AVal × Heap)),w≤B.length →
   xK T code185R1 ⟨[(0,.val (.ptr (some (B.length,0)))),(3,.val (.int .i64 i))],⟨O,b,w⟩⟩ (k:=⟨c⟩)=c .normal ⟨[],⟨O',b,w⟩⟩:=by
 obtain ⟨hlt,hBO⟩:=h.len
 obtain ⟨O1,nx,q,cs,a0,a2,a3,a3',a4,a5,cc,hat,hat1,hlen,hnx,e1,h3,h4,h5,h6,h7⟩:=h.aim hb hk hi
 obtain ⟨t1,t2,t3⟩:=tail7 hi h6
 refine ⟨_,h7,fun w c hw=>?_⟩
 have hn1:X.C.length≤9223372036854775807:=by
  obtain ⟨_,_,_,_,_,_,_,_,_,_,hn,_⟩:=h.ex
  omega
 have hwl:nx O.length=O.length∨nx O.length=B.length:=by rcases hnx with g | g <;> rw [g] <;> omega
 have hm1:min w B.length=w:=by omega
 have hm2:min w q=w:=by omega
 have hm3:min w O.length=w:=by omega
 rcases hwl with hwl | hwl <;>
  simp (maxSteps:=3000000) (disch:=omega) [au,benign,again,AVal.eqb,code185R1,hat,e1,hat1,h5,hwl,hm1,hm2,hm3]
theorem r186a (h:Ws tN tb tv B O X k dep) (hb:b≤tN) (hk:k+1≤100000) {i:Nat} (hi:i < X.C.length) :
  ∃ O',Ws tN tb tv B O' (X.aim i) (k+1) dep∧∀ (w:Nat) (c:AExit→St→Option (AVal × Heap)),w≤B.length →
   xK T code186R0 ⟨[(0,.val (.ptr (some (B.length,0)))),(3,.val (.int .i64 i))],⟨O,b,w⟩⟩ (k:=⟨c⟩)=c .normal ⟨[],⟨O',b,w⟩⟩:=by
 obtain ⟨hlt,hBO⟩:=h.len
 obtain ⟨O1,nx,q,cs,a0,a2,a3,a3',a4,a5,cc,hat,hat1,hlen,hnx,e1,h3,h4,h5,h6,h7⟩:=h.aim hb hk hi
 obtain ⟨t1,t2,t3⟩:=tail7 hi h6
 refine ⟨_,h7,fun w c hw=>?_⟩
 have hn1:X.C.length≤9223372036854775807:=by
  obtain ⟨_,_,_,_,_,_,_,_,_,_,hn,_⟩:=h.ex
  omega
 have hwl:nx O.length=O.length∨nx O.length=B.length:=by rcases hnx with g | g <;> rw [g] <;> omega
 have hm1:min w B.length=w:=by omega
 have hm2:min w q=w:=by omega
 have hm3:min w O.length=w:=by omega
 rcases hwl with hwl | hwl <;>
  simp (maxSteps:=3000000) (disch:=omega) [au,benign,again,AVal.eqb,code186R0,hat,e1,hat1,h5,hwl,hm1,hm2,hm3]
end
end Go.Abs.AbsMk

namespace Go.Abs.AbsMk
open Go.Abs.AbsMake
open Go.Abs.AbsDesc hiding T
open Go.Abs.AbsHier hiding T sub
variable {os O B:List AObj} {b w:Nat} {tN:Nat} {tb:List UInt8} {tv:AVal} {dep:Int} {X:WX} {k:Nat}
section
attribute [-simp] getElem?_pos getElem?_neg List.all_eq_true sget
attribute [local simp] gz gs nltT nltF iltT iltF ileT nleT cf dy dz d7
theorem s185 (hb:b≤tN) {j:Nat} (hs:Act GSs tN tb tv B b dep 209 [.ptr (some (B.length,0))] j):Act GS tN tb tv B b dep 185 [.ptr (some (B.length,0))] (9+2*j):=fun O X k h hk=>by
 have hKK:KK 1=5:=rfl
 obtain ⟨hlt,hBO⟩:=h.len
 have h151:Expr GI tN tb tv B b dep 151 1 (KK 1):=(expr_all hb 1 1 (by decide) (by decide) (by decide)).1
 obtain ⟨O1,m1,⟨n1,k1,p1⟩,l1,u1,e1⟩:=h151 O X k h (by omega)
 obtain ⟨r2,O2,nx,g1,g2,g3,g4,g5,g6⟩:=(p1.app [.cells 1 (acts185.map (AVal.int .u8))]).next hb (x:=6) (by decide) (by decide)
 obtain ⟨y,hy,hym⟩:=bytes_get acts185 (r:=r2) (by simp only [acts185,bp,a7]; omega)
 obtain ⟨O3,m3,p3,l3,u3,e3⟩:=s210 g2 hb (by omega) (op:=y)
 obtain ⟨m',q1,q2,q3⟩:=nx_min g5 l3
 obtain ⟨_,_,_,_,_,_,_,_,_,hat1,_⟩:=p1.at'
 have hlen1:=p1.len
 have hat1:=fun Y=>(ag (l₂:=Y) hlen1.2).trans hat1
 have g7:=g4 O1.length (by omega)
 rw [dh] at g7
 simp only [acts185,cr,gg] at g6 g7 hy
 obtain ⟨O4,m4,⟨n4,k4,p4⟩,l4,u4,e4⟩:=hs O3 _ _ p3 (by omega)
 obtain ⟨O5,m5,p5,l5,u5,e5⟩:=s210 p4 hb (by omega) (op:=167)
 obtain ⟨O6,p6,e6⟩:=r185a p5 hb (by omega) (i:=(X.add n1).C.length) (by have:=GSs.len k4; simp only [dv,bp,a7] at this ⊢; omega) (z:=.int .i64 n4.C.length)
 obtain ⟨O7,m7,⟨n7,k7,p7⟩,l7,u7,e7⟩:=hs O6 _ _ p6 (by omega)
 obtain ⟨O8,p8,e8⟩:=r185b p7 hb (by omega) (i:=n4.C.length) (by have:=GSs.len k7; simp only [aim_len,dv,bp,a7] at this; omega)
 refine ⟨O8,min m1 (min m' (min m4 (min m5 m7))),⟨_,?_,p8.le (by omega)⟩,by omega,by omega,fun w=>?_⟩
 ·rw [WX.add_add] at k4
  rw [dv] at k7
  exact .choice X n4 n7 n1 y k1 hym k4 k7
 simp (maxSteps:=3000000) (disch:=omega) [az t185,code185,e1,hat1,g6,g7,hy,e3,q3,e4,e5,e6,e7,e8,aq]
theorem s186 (hb:b≤tN) {j:Nat} (hs:Act GSs tN tb tv B b dep 209 [.ptr (some (B.length,0))] j):Act GS tN tb tv B b dep 186 [.ptr (some (B.length,0))] (8+j):=fun O X k h hk=>by
 obtain ⟨hlt,hBO⟩:=h.len
 obtain ⟨_,_,_,_,_,_,_,_,_,hat,_⟩:=h.at'
 obtain ⟨r2,O1,nx,g1,g2,g3,g4,g5,g6⟩:=h.next hb (x:=5) (by decide) (by decide)
 obtain ⟨O2,m2,p2,l2,u2,e2⟩:=s153 g2 hb (by omega) (x:=r2) (by omega) (by omega)
 obtain ⟨m',q1,q2,q3⟩:=nx_min g5 l2
 obtain ⟨O3,m3,p3,l3,u3,e3⟩:=s150 p2 hb (by omega) (op:=54) (nn:=2)
 rw [WX.add_add] at p3
 obtain ⟨_,_,_,_,_,_,_,_,_,hat3,_⟩:=p3.at'
 obtain ⟨O4,nx4,a4,p4,_,_,hnx4,e4⟩:=s208 p3 hb (by omega) .nil hat3
 obtain ⟨O5,m5,p5,l5,u5,e5⟩:=s150 p4 hb (by omega) (op:=21) (nn:=2)
 have hl2:(X.add ([numI r2]++[opI 54 2])).C.length=X.C.length+2:=dv _ _
 rw [hl2] at e4
 simp only [a7] at e4
 have q5:∀ w,min (nx4 w) m5=min w m5:=fun w=>by rcases hnx4 with g | g <;> rw [g] <;> omega
 obtain ⟨O6,m6,p6,l6,u6,e6⟩:=s210 p5 hb (by omega) (op:=158)
 have hl3:(((X.add ([numI r2]++[opI 54 2])).label []).add [opI 21 2]).C.length=X.C.length+3:=by rw [dv,ff,hl2]; rfl
 rw [hl3] at e6
 rw [WX.add_add] at p6
 obtain ⟨O7,m7,⟨n7,k7,p7⟩,l7,u7,e7⟩:=hs O6 _ _ p6 (by omega)
 obtain ⟨pc,pt,px,cc,ct,cx,nt,nx',bud,cs,h1,h6,h9,h7,hkw,_,_,p8⟩:=p7.put (b:=b) (x:=⟨132,2,-1,[],[],[],[]⟩) hb (by omega) ⟨by decide,by decide,by decide,by decide⟩
 simp only [InsU.cells] at h7
 simp only [InsU.cells] at p8
 obtain ⟨O9,m9,p9,l9,u9,e9⟩:=s150 p8 hb (by omega) (op:=167) (nn:=((X.C.length+2:Nat):Int))
 rw [WX.add_add] at p9
 simp only [Int.natCast_add,b7] at e9
 obtain ⟨O10,p10,e10⟩:=r186a p9 hb (by omega) (i:=X.C.length+3) (by have:=GSs.len k7; rw [dv,ff,hl2] at this; rw [dv]; simp at this ⊢; omega)
 simp only [Int.natCast_add,b7] at e10
 refine ⟨O10,min m' (min m3 (min m5 (min m6 (min m7 (min B.length m9))))),⟨_,.loop X n7 r2 (by omega) k7,p10.le (by omega)⟩,by omega,by omega,fun w=>?_⟩
 simp (maxSteps:=3000000) (disch:=omega) [az t186,code186,hat,g6,e2,q3,e3,e4,e5,q5,e6,e7,-aAppend,h1,h7,h6,h9,hkw,e9,e10,aq]
end
end Go.Abs.AbsMk

namespace Go.Abs.AbsMk
open Go.Abs.AbsMake
open Go.Abs.AbsDesc hiding T
open Go.Abs.AbsHier hiding T sub
variable {os O B:List AObj} {b w:Nat} {tN:Nat} {tb:List UInt8} {tv:AVal} {dep:Int} {X:WX} {k:Nat}
theorem Ws.last (h:Ws tN tb tv B O X k dep) (hn:0 < X.C.length) {x:InsU} (hx:X.C[X.C.length - 1]? = some x) {a0 a2 a3 a4 a5:AVal} {pc:Option (Nat × Nat)} {n':Nat} {cc:Option Nat} (hat:O[B.length]? = some (.cells 6 [a0,.slice pc n' cc,a2,a3,a4,a5])) :
  ∃ q cs,pc=some (q,0)∧n'=X.C.length∧O[q]? = some (.cells 7 cs)∧cs.length=X.C.length*7∧cs[(X.C.length - 1)*7]? = some (.int .u8 x.op):=by
 obtain ⟨q,cs,h1,h2,h3,h4,h5,h6,h7⟩:=h.setN (i:=0) hn hat
 obtain ⟨pc',pt,px,cc',ct,cx,M,bud,hW,_⟩:=h.ex
 have e:=hat.symm.trans hW.wr
 simp only [wrO,ap,AObj.cells.injEq,eb,AVal.slice.injEq,true_and,and_true] at e
 obtain ⟨_,⟨e1,_,_⟩,_⟩:=e
 have hR:Row O 7 InsU.cells X.C pc':=Own.row (f:=InsU.cells) (fun _=>rfl) hW.c
 obtain ⟨p,o,cs',ha,hpp,hpl,hcs,ht⟩:=gm hR hx
 rw [← e1,h1] at ha
 simp only [ap,bt] at ha
 obtain ⟨rfl,rfl⟩:=ha
 rw [h5] at hpp
 simp only [ap,AObj.cells.injEq,true_and] at hpp
 subst hpp
 have:=take_get (k:=0) ht (by decide)
 rw [dc,fm] at this
 exact ⟨q,cs,h1,h2,h5,h6,this⟩
theorem Ws.trap (h:Ws tN tb tv B O X k dep) (hb:b≤tN) (hk:k≤100000) {x:TrapU} (hx:x.cls ∈ classesT) :
  ∃ pc pt px cc ct cx nt nx bud cs,O[B.length]? = some (.cells 6 [.ptr (some (tN,0)),.slice pc X.C.length cc,.slice pt nt ct,.slice px nx cx,.int .i64 dep,.int .i64 bud]) ∧
   (∀ Y,(killO pt O++Y)[B.length]? = some (.cells 6 [.ptr (some (tN,0)),.slice pc X.C.length cc,.slice pt nt ct,.slice px nx cx,.int .i64 dep,.int .i64 bud])) ∧
   (∀ w,aAppend 4 40 ⟨O++[AObj.cells 4 x.cells],b,w⟩ (.slice pt nt ct) (.slice (some (O.length,0)) 1 (some 1))=some (.slice (some (O.length+1,0)) (nt+1) none,⟨killO pt O++[AObj.cells 4 x.cells,AObj.cells 4 cs],b,killW pt w⟩)) ∧
   (∀ w,min (killW pt w) B.length=min w B.length) ∧
   Ws tN tb tv B ((killO pt O++[AObj.cells 4 x.cells,AObj.cells 4 cs]).set B.length (.cells 6 [.ptr (some (tN,0)),.slice pc X.C.length cc,.slice (some (O.length+1,0)) (nt+1) none,.slice px nx cx,.int .i64 dep,.int .i64 bud])) (X.trap x) (k+1) dep:=by
 obtain ⟨pc,pt,px,cc,ct,cx,M,bud,hW,hMk,h2,h3,h4⟩:=h.ex
 have h1:=app_own (b:=b) (by':=40) (x:=x) (f:=TrapU.cells) (fun _=>rfl) hW.s (by have:=hW.lt; omega) (by omega) (by omega) []
 have h5:=hW.addS hx []
 simp only [b0,a7,fm] at h1 h5
 refine ⟨pc,pt,px,cc,ct,cx,X.S.length,M.length,bud,_,hW.wr,fun Y=>?_,h1,fun w=>?_,⟨_,_,_,_,_,_,_,_,h5,hMk,by show X.C.length≤_; omega,by simp [WX.trap]; omega,by omega⟩⟩
 ·rw [ag (by simpa using hW.len),kill_get fun o e=>by have:=(hW.s.some _ _ e).2.2.1; omega]; exact hW.wr
 ·cases pt with
  | none=>rfl
  | some q=>obtain ⟨i,o⟩:=q; have:=(hW.s.some _ _ rfl).2.2.1; simp only [killW]; omega
def clsR:List AVal:=[.str [],.str [84,104,114,111,119,97,98,108,101],.str [77,97,116,104,70,97,117,108,116],.str [79,111,112,115],.str [78,117,108,108,70,97,117,108,116]]
theorem cls_get {r:Nat} (hr:r < 5):∃ y,clsR[r]? = some (.str y)∧y ∈ classesT∧y.length≤20:=by
 have:r=0∨r=1∨r=2∨r=3∨r=4:=by omega
 rcases this with rfl | rfl | rfl | rfl | rfl <;> exact ⟨_,rfl,by decide,by decide⟩
section
attribute [-simp] getElem?_pos getElem?_neg List.all_eq_true sget
attribute [local simp] gz gs nltT nltF iltT iltF ileT nleT cf dy dz d7
theorem t187_0 (h:Ws tN tb tv B O X k dep) (hb:b≤tN) (hk:k+1≤100000) {e from' to' at' aft:Int} {X':WX} (he:(e = -1∧X'=X)∨∃ i:Nat,e=i∧i < X.C.length∧X'=X.setN i aft) {y:Str} (hy:y ∈ classesT) :
  ∃ O',Ws tN tb tv B O' (X'.trap ⟨from',to',at',y⟩) (k+1) dep∧∀ (w:Nat) (c:AExit→St→Option (AVal × Heap)),w≤B.length →
   xK T code187T0 ⟨[(0,.val (.ptr (some (B.length,0)))),(2,.val (.int .i64 from')),(3,.val (.int .i64 e)),(4,.val (.int .i64 to')),(5,.val (.str y)),(7,.val (.int .i64 at')),(8,.val (.int .i64 aft))],⟨O,b,w⟩⟩ (k:=⟨c⟩)=c .normal ⟨[],⟨O',b,w⟩⟩:=by
 obtain ⟨hlt,hBO⟩:=h.len
 rcases he with ⟨rfl,rfl⟩ | ⟨i,rfl,hi,rfl⟩
 ·obtain ⟨pc,pt,px,cc,ct,cx,nt,nx,bud,cs,h1,h9,h7,hkw,h8⟩:=h.trap (b:=b) (x:=⟨from',to',at',y⟩) hb (by omega) hy
  simp only [TrapU.cells] at h7 h8 h9
  refine ⟨_,h8,fun w c hw=>?_⟩
  have hm1:min w B.length=w:=by omega
  simp (disch:=omega) [code187T0,-aAppend,h1,h7,h9,hkw,hm1,TrapU.cells]
 ·obtain ⟨pc0,_,_,cc0,_,_,_,_,_,hat0,_⟩:=h.at'
  obtain ⟨q,cs0,rfl,_,q3,q4,q5,q6,q7⟩:=h.setN hi hat0
  have q7:=q7 aft
  obtain ⟨t1,t2,t3⟩:=tail7 hi q6
  obtain ⟨pc,pt,px,cc,ct,cx,nt,nx,bud,cs,h1,h9,h7,hkw,h8⟩:=q7.trap (b:=b) (x:=⟨from',to',at',y⟩) hb (by omega) hy
  simp only [TrapU.cells] at h7 h8 h9
  have hll:∀ Y,(O.set q Y).length=O.length:=fun Y=>fw
  rw [hll] at h7 h8
  refine ⟨_,h8,fun w c hw=>?_⟩
  have hm1:min w B.length=w:=by omega
  have hm2:min w q=w:=by omega
  have hn1:X.C.length≤9223372036854775807:=by
   obtain ⟨_,_,_,_,_,_,_,_,_,_,hn,_⟩:=h.ex
   omega
  simp (disch:=omega) [code187T0,-aAppend,hat0,q5,h1,h7,h9,hkw,hm1,hm2,TrapU.cells]
theorem t187_1 (h:Ws tN tb tv B O X k dep) (hb:b≤tN) {j:Nat} (hs:Act GSs tN tb tv B b dep 209 [.ptr (some (B.length,0))] j) (hk:k+(j+4)≤100000) {e from' to':Int} (he:e = -1∨∃ i:Nat,e=i∧i < X.C.length) :
  ∃ O' m X3 y,y ∈ classesT∧GSs ((X.label (stackT y)).add [opI 87 0]) X3∧Ws tN tb tv B O' ((if e = -1 then X3.label [] else X3.aim e.toNat).trap ⟨from',to',X.C.length,y⟩) (k+(j+4)) dep∧tN≤m∧m≤B.length∧∀ (w:Nat) (c:AExit→St→Option (AVal × Heap)),w≤B.length →
   xK T code187T1 ⟨[(0,.val (.ptr (some (B.length,0)))),(2,.val (.int .i64 from')),(3,.val (.int .i64 e)),(4,.val (.int .i64 to'))],⟨O,b,w⟩⟩ (k:=⟨c⟩)=c .normal ⟨[],⟨O',b,min w m⟩⟩:=by
 obtain ⟨hlt,hBO⟩:=h.len
 obtain ⟨_,_,_,_,_,_,_,_,_,hat,_⟩:=h.at'
 have hatX:=fun Y=>(ag (l₂:=Y) hBO).trans hat
 obtain ⟨r2,O2,nx,g1,g2,g3,g4,g5,g6⟩:=(h.app [.cells 1 clsR]).next hb (x:=5) (by decide) (by decide)
 obtain ⟨y,hy,hy2,hy3⟩:=cls_get (r:=r2) (by omega)
 have g7:=g4 O.length (by omega)
 rw [dh] at g7
 have hO2:=g2.len.2
 obtain ⟨s,hsl,hse⟩:∃ s:Str,s.length≤100∧s=76 :: ((if y=[] then throwT else y)++[59]):=⟨_,by split <;> simp [throwT] <;> omega,rfl⟩
 have hst:[s]=stackT y:=by rw [hse]; unfold stackT caughtS; rfl
 have g8:=g2.app [.cells 1 [.str s]]
 obtain ⟨_,_,_,_,_,_,_,_,_,hat8,_⟩:=g8.at'
 obtain ⟨O3,nx3,a3,p3,hat3,hl3,hnx3,e3⟩:=s208 g8 hb (by omega) (.one O2.length s hO2 hsl (by rw [dh]; rfl)) hat8
 rw [hst] at p3
 obtain ⟨O4,m4,p4,l4,u4,e4⟩:=s150 p3 hb (by omega) (op:=87) (nn:=0)
 have q4:∀ w,min (nx3 w) m4=min w m4:=fun w=>by rcases hnx3 with g | g <;> rw [g] <;> omega
 obtain ⟨m',q1,q2,q3⟩:=nx_min g5 l4
 obtain ⟨O5,m5,⟨n5,k5,p5⟩,l5,u5,e5⟩:=hs O4 _ _ p4 (by omega)
 obtain ⟨_,_,_,_,_,_,_,_,_,hat5,_⟩:=p5.at'
 obtain ⟨O6,nx6,a6,p6,hat6,hl6,hnx6,e6⟩:=s208 p5 hb (by omega) .nil hat5
 obtain ⟨O7,p7,e7⟩:=t187_0 p6 hb (by omega) (e:=e) (from':=from') (to':=to') (at':=X.C.length) (aft:=n5.C.length) (X':=if e = -1 then n5.label [] else n5.aim e.toNat) (by
  rcases he with he | ⟨i,he,hi⟩
  ·exact .inl ⟨he,if_pos he⟩
  ·refine .inr ⟨i,he,by have:=GSs.len k5; simp only [dv,ff,bp,a7] at this ⊢; omega,?_⟩
   rw [if_neg (by omega),he]; rfl) hy2
 have q6:∀ w,w≤B.length→nx6 w=w:=fun w hw=>by rcases hnx6 with g | g <;> rw [g] <;> omega
 simp only [clsR] at g6 g7 hy
 simp only [a7,ce] at e3 e6
 refine ⟨O7,min m' m5,n5,y,hy2,k5,p7.le (by omega),by omega,by omega,fun w c hw=>?_⟩
 have q7:nx6 (min w (min m' m5))=min w (min m' m5):=q6 _ (by omega)
 have e7:=e7 (min w (min m' m5)) c (by omega)
 by_cases hy0:y=[]
 ·rw [if_pos hy0] at hse
  subst hy0
  simp only [hse,throwT,b9,b0] at e3
  simp (disch:=omega) [code187T1,hatX,g6,g7,hy,e3,e4,q4,q3,e5,e6,q7,e7,aq]
 ·rw [if_neg hy0] at hse
  rw [hse] at e3
  simp (disch:=omega) [code187T1,hatX,g6,g7,hy,hy0,e3,e4,q4,q3,e5,e6,q7,e7,aq]
end
end Go.Abs.AbsMk

namespace Go.Abs.AbsMk
open Go.Abs.AbsMake
open Go.Abs.AbsDesc hiding T
open Go.Abs.AbsHier hiding T sub
variable {os O B:List AObj} {b w:Nat} {tN:Nat} {tb:List UInt8} {tv:AVal} {dep:Int} {X:WX} {k:Nat}
section
attribute [-simp] getElem?_pos getElem?_neg List.all_eq_true sget
attribute [local simp] gz gs nltT nltF iltT iltF ileT nleT cf dy dz d7
theorem t187_2 (h:Ws tN tb tv B O X k dep) (hn:0 < X.C.length) {x:InsU} (hx:X.C[X.C.length - 1]? = some x) (hb:b≤tN) {j:Nat} (hs:Act GSs tN tb tv B b dep 209 [.ptr (some (B.length,0))] j) (hk:k+(j+5)≤100000) {from':Int} :
  ∃ O' m X3 y,y ∈ classesT∧(if x.op=0 then GSs (((X.add [opI 167 0]).label (stackT y)).add [opI 87 0]) X3∧Ws tN tb tv B O' ((X3.aim X.C.length).trap ⟨from',X.C.length,X.C.length+1,y⟩) (k+(j+5)) dep else GSs ((X.label (stackT y)).add [opI 87 0]) X3∧Ws tN tb tv B O' ((X3.label []).trap ⟨from',X.C.length,X.C.length,y⟩) (k+(j+5)) dep)∧tN≤m∧m≤B.length∧∀ (w:Nat) (c:AExit→St→Option (AVal × Heap)),w≤B.length →
   xK T code187T2 ⟨[(0,.val (.ptr (some (B.length,0)))),(2,.val (.int .i64 from')),(3,.val (.int .i64 (-1)))],⟨O,b,w⟩⟩ (k:=⟨c⟩)=c .normal ⟨[],⟨O',b,min w m⟩⟩:=by
 obtain ⟨hlt,hBO⟩:=h.len
 obtain ⟨pc,pt,px,cc,ct,cx,nt,nx',bud,hat,_⟩:=h.at'
 obtain ⟨q,cs,rfl,_,h3,h4,h5⟩:=h.last hn hx hat
 obtain ⟨n,hnX⟩:∃ n,X.C.length=n:=⟨_,rfl⟩
 obtain ⟨v,hvx⟩:∃ v,x.op=v:=⟨_,rfl⟩
 rw [hnX] at hat hn h4 h5
 rw [hvx] at h5 ⊢
 rw [hnX]
 have hn1:n≤9223372036854775807:=by
  obtain ⟨_,_,_,_,_,_,_,_,_,_,hn,_⟩:=h.ex
  omega
 have w1:IntKind.i64.wrap ((n:Int) - 1)=((n - 1:Nat):Int):=by rw [cf (by omega)]; omega
 have c0:¬ ((n - 1:Nat):Int) < 0:=by omega
 have c1:((n - 1:Nat):Int) < n:=by omega
 have t1:(n - 1)*7+7≤cs.length:=by
  have:(n - 1+1)*7=n*7:=by congr 1; omega
  omega
 generalize hn0:n - 1=l at *
 by_cases hv:v=0
 ·obtain ⟨O1,m1,p1,l1,u1,e1⟩:=s210 h hb (by omega) (op:=167)
  rw [hnX] at e1
  obtain ⟨O2,m2,X3,y,hy,k2,p2,l2,u2,e2⟩:=t187_1 p1 hb hs (by omega) (e:=n) (from':=from') (to':=n) (.inr ⟨n,rfl,by rw [dv]; simp; omega⟩)
  rw [if_neg (by omega),Int.toNat_natCast,dv,hnX] at p2
  refine ⟨O2,min m1 m2,X3,y,hy,by rw [if_pos hv]; exact ⟨k2,p2.le (by omega)⟩,by omega,by omega,fun w c hw=>?_⟩
  have e2:=e2 (min w m1) c (by omega)
  subst hv
  simp (disch:=omega) [code187T2,hat,w1,c0,c1,h3,h5,e1,e2,aq]
 ·obtain ⟨O2,m2,X3,y,hy,k2,p2,l2,u2,e2⟩:=t187_1 h hb hs (by omega) (e:=-1) (from':=from') (to':=n) (.inl rfl)
  rw [if_pos rfl,hnX] at p2
  refine ⟨O2,m2,X3,y,hy,by rw [if_neg hv]; exact ⟨k2,p2.le (by omega)⟩,by omega,by omega,fun w c hw=>?_⟩
  have e2:=e2 w c (by omega)
  simp (disch:=omega) [code187T2,hat,w1,c0,c1,h3,h5,hv,e2,aq]
end
theorem add_last (X:WX) (E:List InsU) (x:InsU):(X.add (E++[x])).C[(X.add (E++[x])).C.length - 1]? = some x:=by
 rw [dv]
 show (X.C++(E++[x]))[_]? = _
 rw [← bh]
 simp [List.getElem?_append]
section
attribute [-simp] getElem?_pos getElem?_neg List.all_eq_true sget
attribute [local simp] gz gs nltT nltF iltT iltF ileT nleT cf dy dz d7
theorem s187 (hb:b≤tN) {j:Nat} (hs:Act GSs tN tb tv B b dep 209 [.ptr (some (B.length,0))] j):Act GS tN tb tv B b dep 187 [.ptr (some (B.length,0))] (8+2*j):=fun O X k h hk=>by
 obtain ⟨hlt,hBO⟩:=h.len
 obtain ⟨_,_,_,_,_,_,_,_,_,hat,_⟩:=h.at'
 obtain ⟨O1,m1,⟨n1,k1,p1⟩,l1,u1,e1⟩:=hs O _ _ h (by omega)
 obtain ⟨_,_,_,_,_,_,_,_,_,hat1,_⟩:=p1.at'
 obtain ⟨r2,O2,nx,g1,g2,g3,g4,g5,g6⟩:=p1.next hb (x:=3) (by decide) (by decide)
 by_cases hr:r2=1
 ·subst hr
  obtain ⟨pc,pt,px,cc,ct,cx,nt,nx',bud,cs,h1,h6,h9,h7,hkw,_,_,p3⟩:=g2.put (b:=b) (x:=⟨187,0,0,[79,111,112,115],[],[],[]⟩) hb (by omega) ⟨by decide,by decide,by decide,by decide⟩
  simp only [InsU.cells] at h7 p3
  obtain ⟨O4,m4,p4,l4,u4,e4⟩:=s150 p3 hb (by omega) (op:=191) (nn:=0)
  rw [WX.add_add] at p4
  obtain ⟨O5,m5,X3,y,hy,hk5,l5,u5,e5⟩:=t187_2 p4 (by rw [dv]; simp) (add_last n1 _ _) hb hs (by omega) (from':=X.C.length)
  rw [if_neg (by decide),dv] at hk5
  obtain ⟨k5,p5⟩:=hk5
  obtain ⟨m',q1,q2,q3⟩:=nx_min g5 (gh hlt)
  refine ⟨O5,min m1 (min m' (min m4 m5)),⟨_,.guarded X n1 X3 y true hy k1 k5,p5.le (by omega)⟩,by omega,by omega,fun w=>?_⟩
  have e5:=fun w c hw=>e5 w c hw
  simp (disch:=omega) [az t187,code187,hat,e1,hat1,g6,-aAppend,h1,h7,h6,h9,hkw,q3,e4,e5,aq]
 ·obtain ⟨O4,m4,p4,l4,u4,e4⟩:=s150 g2 hb (by omega) (op:=0) (nn:=0)
  obtain ⟨O5,m5,X3,y,hy,hk5,l5,u5,e5⟩:=t187_2 p4 (by rw [dv]; simp) (add_last n1 [] _) hb hs (by omega) (from':=X.C.length)
  rw [if_pos (show (opI 0 0).op=0 from rfl),dv,WX.add_add] at hk5
  obtain ⟨k5,p5⟩:=hk5
  obtain ⟨m',q1,q2,q3⟩:=nx_min g5 l4
  refine ⟨O5,min m1 (min m' m5),⟨_,.guarded X n1 X3 y false hy k1 k5,by have:=p5.le (k':=k+(8+2*j)) (by omega); simp only [bp,a7,Int.natCast_add] at this ⊢; exact this⟩,by omega,by omega,fun w=>?_⟩
  simp (disch:=omega) [az t187,code187,hat,e1,hat1,g6,hr,natInt1,q3,e4,e5,aq]
end
end Go.Abs.AbsMk

namespace Go.Abs.AbsMk
open Go.Abs.AbsMake
open Go.Abs.AbsDesc hiding T
open Go.Abs.AbsHier hiding T sub
variable {os O B:List AObj} {b w:Nat} {tN:Nat} {tb:List UInt8} {tv:AVal} {X:WX} {k:Nat} {dep:Int}
set_option maxHeartbeats 3000000 in
theorem r152 (hb:b≤tN) (h:Ws tN tb tv B O X k dep) (hk:k+1≤100000) {v:AVal} :
  ∃ O' m E,GF E∧Ws tN tb tv B O' (X.add E) (k+1) dep∧tN≤m∧m≤B.length∧∀ (w:Nat) (c:AExit→St→Option (AVal × Heap)),
   xK T code152R0 ⟨[(0,.val (.ptr (some (B.length,0)))),(181,.val v)],⟨O,b,w⟩⟩ (k:=⟨c⟩)=c .normal ⟨[],⟨O',b,min w m⟩⟩:=by
 obtain ⟨hlt,hBO⟩:=h.len
 obtain ⟨_,_,_,_,_,_,_,_,_,hat,_⟩:=h.at'
 obtain ⟨r1,O1,nx1,f1,f2,f3,f4,f5,f6⟩:=h.next hb (x:=3) (by decide) (by decide)
 have hBO1:=f2.len.2
 have hO1:O1.length=O.length:=f3
 obtain ⟨r2,O2,nx,g1,g2,g3,g4,g5,g6⟩:=f2.next hb (x:=9) (by decide) (by decide)
 have hBO2:=g2.len.2
 have hO2:O2.length=O.length:=g3.trans f3
 obtain ⟨pc,pt,px,cc,ct,cx,nt,nx',bud,cs,h1,h6,h9,h7,hkw,hk1,hk2,h8⟩:=g2.put (b:=b) (x:=⟨132,r1,(r2:Int) - 4,[],[],[],[]⟩) hb (by omega) ⟨by simp,by simp,by simp,by simp⟩
 have e11:=(g4 B.length (by omega)).symm.trans h1
 have e0:=(f4 B.length (by omega)).symm.trans e11
 obtain ⟨lw,_,_⟩:=g2.lows h1
 have hids:AVal.idsL cs=[]:=h8.codeIds (q:=O2.length+1) (o:=0) (cs:=cs) (by rw [a9,if_pos rfl,if_pos (by simp; omega)]) (by
  rw [al (by omega),ai (by simp)]
  simp)
 have hwl1:nx1 O.length=O.length∨nx1 O.length=tN:=by rcases f5 with g | g <;> rw [g] <;> omega
 have hwl:nx O.length=O.length∨nx O.length=tN:=by rcases g5 with g | g <;> rw [g] <;> omega
 refine ⟨_,min (nx1 O.length) (min (nx O.length) B.length),_,.iinc r1 r2 (by omega) (by omega),h8,by omega,by omega,fun w c=>?_⟩
 have hm1:min O.length B.length=B.length:=by omega
 have hm2:min tN B.length=tN:=by omega
 have hm3:min O.length tN=tN:=by omega
 simp only [InsU.cells] at h7 ⊢
 rw [hO2] at h7 ⊢
 have hg0:∀ Y:List AObj,(O2++Y)[O.length]? = Y[0]?:=fun Y=>by rw [← hO2,dh]
 have hg1:∀ (Y:List AObj) (i:Nat),(O2++Y)[O.length+i]? = Y[i]?:=fun Y i=>by rw [← hO2,f0]
 have hB1:∀ Y:List AObj,(O2++Y)[B.length]? = some (AObj.cells 6 [.ptr (some (tN,0)),.slice pc X.C.length cc,.slice pt nt ct,.slice px nx' cx,.int .i64 dep,.int .i64 bud]):=fun Y=>(ag (by omega)).trans h1
 have hBn:B.length≠tN:=by omega
 cases pc with
 | none =>
  simp only [killO,killW] at h7 h9 ⊢
  rcases hwl1 with hwl1 | hwl1 <;> rcases hwl with hwl | hwl <;>
   simp (maxSteps:=3000000) (disch:=omega) [-getElem?_pos,-getElem?_neg,-List.all_eq_true,gz,gs,nltT,nltF,iltT,iltF,ileT,nleT,cf,au,benign,again,AVal.eqb,hO2,hO1,hg0,hg1,hB1,-sget,dy,dz,d7,-aAppend,code152R0,e0,f6,g6,h1,e11,h7,h9,hids,hm1,hm2,hm3,hwl,hwl1]
 | some q =>
  obtain ⟨i,o⟩:=q
  obtain ⟨l1,l2⟩:=lw i o rfl
  have hk0:∀ Y:List AObj,(O2.set i .dead++Y)[O.length]? = Y[0]?:=fun Y=>by rw [← hO2,ai (by simp)]; simp
  have hk1:∀ (Y:List AObj) (j:Nat),(O2.set i .dead++Y)[O.length+j]? = Y[j]?:=fun Y j=>by rw [← hO2,ai (by simp)]; simp
  have hi1:¬ i=O.length+1:=by omega
  have hi2:¬ O.length+1≤i:=by omega
  have hi3:¬ O.length≤i:=by omega
  have hi4:i < O.length:=by omega
  have hi5:i < O.length+1:=by omega
  have hiB:i≠B.length:=by omega
  have hit:i≠tN:=by omega
  simp only [killO,killW] at h7 h9 ⊢
  rcases hwl1 with hwl1 | hwl1 <;> rcases hwl with hwl | hwl <;>
   simp (maxSteps:=3000000) (disch:=omega) [-getElem?_pos,-getElem?_neg,-List.all_eq_true,gz,gs,nltT,nltF,iltT,iltF,ileT,nleT,cf,au,benign,again,AVal.eqb,hO2,hO1,hg0,hg1,hB1,-sget,dy,dz,d7,-aAppend,code152R0,e0,f6,g6,h1,e11,h7,h9,hids,hm1,hm2,hm3,hk0,hk1,hi1,hi2,hi3,hi4,hi5,hiB,hit,hwl,hwl1]
end Go.Abs.AbsMk

namespace Go.Abs.AbsMk
open Go.Abs.AbsMake
open Go.Abs.AbsDesc hiding T
open Go.Abs.AbsHier hiding T sub
variable {os O B:List AObj} {b w:Nat} {tN:Nat} {tb:List UInt8} {tv:AVal} {dep:Int} {X:WX} {k:Nat}
section
attribute [-simp] getElem?_pos getElem?_neg List.all_eq_true sget
attribute [local simp] gz gs nltT nltF iltT iltF ileT nleT cf dy dz d7
set_option maxHeartbeats 1000000 in
theorem sw152 (hb:b≤tN) {j J:Nat} (hJ:13≤J) (hs:dep < 3→Act GSs tN tb tv B b dep 209 [.ptr (some (B.length,0))] j) (hj:dep < 3→9+2*j≤J) (h:Ws tN tb tv B O X k dep) (hk:k+J≤100000) {r:Nat} (hr:r < 16) :
  ∃ O' m X',GS X X'∧Ws tN tb tv B O' X' (k+J) dep∧tN≤m∧m≤B.length∧∀ (w:Nat) (c:AExit→St→Option (AVal × Heap)),
   xK T code152B0 ⟨[(0,.val (.ptr (some (B.length,0)))),(2,.val (.int .i64 r))],⟨O,b,w⟩⟩ (k:=⟨c⟩)=c .normal ⟨[],⟨O',b,min w m⟩⟩:=by
 obtain ⟨hlt,hBO⟩:=h.len
 have hK1:KK 1=5:=rfl
 have hK2:KK 2=11:=rfl
 have hi1:Expr GI tN tb tv B b dep 151 1 5:=(expr_all hb 1 1 (by decide) (by decide) (by decide)).1
 have hi2:Expr GI tN tb tv B b dep 151 2 11:=(expr_all hb 2 2 (by decide) (by decide) (by decide)).1
 have hl2:Expr GL tN tb tv B b dep 183 2 11:=(expr_all hb 2 2 (by decide) (by decide) (by decide)).2 (by decide)
 obtain ⟨pc,pt,px,cc,ct,cx,nt,nx',bud,hat,_⟩:=h.at'
 by_cases c0:bud≤0∨r < 2
 ·obtain ⟨O1,m1,⟨n1,k1,p1⟩,l1,u1,e1⟩:=hi2 O X k h (by omega)
  obtain ⟨_,_,_,_,_,_,_,_,_,hat1,_⟩:=p1.at'
  obtain ⟨r2,O2,nx,g1,g2,g3,g4,g5,g6⟩:=p1.next hb (x:=2) (by decide) (by decide)
  obtain ⟨O3,m3,p3,l3,u3,e3⟩:=s150 g2 hb (by omega) (op:=54) (nn:=1+r2)
  obtain ⟨m',q1,q2,q3⟩:=nx_min g5 l3
  refine ⟨O3,min m1 m',_,.flat X _ (.istore _ r2 k1 (by omega)),by have:=p3.le (k':=k+J) (by omega); rw [WX.add_add] at this; exact this,by omega,by omega,fun w c=>?_⟩
  by_cases c1:bud≤0
  ·simp (disch:=omega) [code152B0,hat,c1,e1,hat1,g6,e3,q3,aq]
  ·have c2:(r:Int) < 2:=by omega
   simp (disch:=omega) [code152B0,hat,c1,c2,e1,hat1,g6,e3,q3,aq]
 have c1:¬ bud≤0:=by omega
 have c2:¬ (r:Int) < 2:=by omega
 have e0:r=2∨r=3∨r=4∨r=5∨r=6∨r=7∨r=8∨(r=9∧dep < 3)∨(r=10∧dep < 3)∨(r=11∧dep < 3)∨r=12∨r=13∨r=14∨(r=9∧¬ dep < 3)∨(r=10∧¬ dep < 3)∨(r=11∧¬ dep < 3)∨r=15:=by omega
 have dflt:(∀ v,∃ O' m E,GF E∧Ws tN tb tv B O' (X.add E) (k+1) dep∧tN≤m∧m≤B.length∧∀ (w:Nat) (c:AExit→St→Option (AVal × Heap)),
   xK T code152R0 ⟨[(0,.val (.ptr (some (B.length,0)))),(181,.val v)],⟨O,b,w⟩⟩ (k:=⟨c⟩)=c .normal ⟨[],⟨O',b,min w m⟩⟩):=fun v=>r152 hb h (by omega)
 rcases e0 with rfl | rfl | rfl | rfl | rfl | rfl | rfl | ⟨rfl,cd⟩ | ⟨rfl,cd⟩ | ⟨rfl,cd⟩ | rfl | rfl | rfl | ⟨rfl,cd⟩ | ⟨rfl,cd⟩ | ⟨rfl,cd⟩ | rfl
 ·obtain ⟨O1,m1,⟨n1,k1,p1⟩,l1,u1,e1⟩:=hi2 O X k h (by omega)
  obtain ⟨O2,m2,p2,l2,u2,e2⟩:=s154 p1 hb (by omega) (op:=184) (c:=[115,121,115]) (m:=[112,114,105,110,116]) (d:=[40,73,41,86]) (by decide) (by decide) (by decide)
  refine ⟨O2,min m1 m2,_,.flat X _ (.print _ k1),by have:=p2.le (k':=k+J) (by omega); rw [WX.add_add] at this; exact this,by omega,by omega,fun w c=>?_⟩
  simp (disch:=omega) [code152B0,hat,c1,c2,e1,e2,aq]
 ·obtain ⟨O1,m1,⟨n1,k1,p1⟩,l1,u1,e1⟩:=hl2 O X k h (by omega)
  obtain ⟨O2,m2,p2,l2,u2,e2⟩:=s150 p1 hb (by omega) (op:=55) (nn:=3)
  refine ⟨O2,min m1 m2,_,.flat X _ (.lstore _ k1),by have:=p2.le (k':=k+J) (by omega); rw [WX.add_add] at this; exact this,by omega,by omega,fun w c=>?_⟩
  simp (disch:=omega) [code152B0,hat,c1,c2,e1,e2,aq]
 ·obtain ⟨O1,m1,⟨_,⟨n1,k1,rfl⟩,p1⟩,l1,u1,e1⟩:=s184 hb O X k h (by omega)
  obtain ⟨O2,m2,p2,l2,u2,e2⟩:=s150 p1 hb (by omega) (op:=58) (nn:=5)
  refine ⟨O2,min m1 m2,_,.flat X _ (.astore _ k1),by have:=p2.le (k':=k+J) (by omega); rw [WX.add_add] at this; exact this,by omega,by omega,fun w c=>?_⟩
  simp (disch:=omega) [code152B0,hat,c1,c2,e1,e2,aq]
 ·obtain ⟨O1,m1,p1,l1,u1,e1⟩:=s150 h hb (by omega) (op:=25) (nn:=5)
  obtain ⟨O2,m2,⟨n2,k2,p2⟩,l2,u2,e2⟩:=hi1 O1 _ _ p1 (by omega)
  obtain ⟨O3,m3,p3,l3,u3,e3⟩:=s154 p2 hb (by omega) (op:=181) (c:=[65]) (m:=[102]) (d:=[73]) (by decide) (by decide) (by decide)
  refine ⟨O3,min m1 (min m2 m3),_,.flat X _ (.putf _ k2),by have:=p3.le (k':=k+J) (by omega); rw [WX.add_add,WX.add_add] at this; exact this,by omega,by omega,fun w c=>?_⟩
  simp (disch:=omega) [code152B0,hat,c1,c2,e1,e2,e3,aq]
 ·obtain ⟨O1,m1,⟨n1,k1,p1⟩,l1,u1,e1⟩:=hi1 O X k h (by omega)
  obtain ⟨O2,m2,p2,l2,u2,e2⟩:=s154 p1 hb (by omega) (op:=179) (c:=[77,97,105,110]) (m:=[115]) (d:=[73]) (by decide) (by decide) (by decide)
  refine ⟨O2,min m1 m2,_,.flat X _ (.puts _ k1),by have:=p2.le (k':=k+J) (by omega); rw [WX.add_add] at this; exact this,by omega,by omega,fun w c=>?_⟩
  simp (disch:=omega) [code152B0,hat,c1,c2,e1,e2,aq]
 ·obtain ⟨O1,m1,⟨n1,k1,p1⟩,l1,u1,e1⟩:=hi1 O X k h (by omega)
  obtain ⟨_,_,_,_,_,_,_,_,_,hat1,_⟩:=p1.at'
  obtain ⟨r2,O2,nx,g1,g2,g3,g4,g5,g6⟩:=p1.next hb (x:=2) (by decide) (by decide)
  obtain ⟨O3,m3,p3,l3,u3,e3⟩:=s150 g2 hb (by omega) (op:=188) (nn:=10 - 2*r2)
  obtain ⟨m',q1,q2,q3⟩:=nx_min g5 l3
  obtain ⟨O4,m4,p4,l4,u4,e4⟩:=s150 p3 hb (by omega) (op:=58) (nn:=6+r2)
  refine ⟨O4,min m1 (min m' m4),_,.flat X _ (.newarr _ r2 k1 (by omega)),by have:=p4.le (k':=k+J) (by omega); rw [WX.add_add,WX.add_add] at this; exact this,by omega,by omega,fun w c=>?_⟩
  simp (disch:=omega) [code152B0,hat,c1,c2,e1,hat1,g6,e3,q3,e4,aq]
 ·obtain ⟨O1,m1,p1,l1,u1,e1⟩:=s150 h hb (by omega) (op:=25) (nn:=6)
  obtain ⟨O2,m2,⟨n2,k2,p2⟩,l2,u2,e2⟩:=hi1 O1 _ _ p1 (by omega)
  obtain ⟨O3,m3,⟨n3,k3,p3⟩,l3,u3,e3⟩:=hi1 O2 _ _ p2 (by omega)
  obtain ⟨O4,m4,p4,l4,u4,e4⟩:=s150 p3 hb (by omega) (op:=79) (nn:=0)
  refine ⟨O4,min m1 (min m2 (min m3 m4)),_,.flat X _ (.iastore _ _ k2 k3),by have:=p4.le (k':=k+J) (by omega); rw [WX.add_add,WX.add_add,WX.add_add] at this; exact this,by omega,by omega,fun w c=>?_⟩
  simp (disch:=omega) [code152B0,hat,c1,c2,e1,e2,e3,e4,aq]
 ·have hjj:=hj cd
  obtain ⟨O1,m1,⟨n1,k1,p1⟩,l1,u1,e1⟩:=s185 hb (hs cd) O X k h (by omega)
  refine ⟨O1,m1,n1,k1,p1.le (by omega),l1,u1,fun w c=>?_⟩
  simp (disch:=omega) [code152B0,hat,c1,c2,cd,e1]
 ·have hjj:=hj cd
  obtain ⟨O1,m1,⟨n1,k1,p1⟩,l1,u1,e1⟩:=s186 hb (hs cd) O X k h (by omega)
  refine ⟨O1,m1,n1,k1,p1.le (by omega),l1,u1,fun w c=>?_⟩
  simp (disch:=omega) [code152B0,hat,c1,c2,cd,e1]
 ·have hjj:=hj cd
  obtain ⟨O1,m1,⟨n1,k1,p1⟩,l1,u1,e1⟩:=s187 hb (hs cd) O X k h (by omega)
  refine ⟨O1,m1,n1,k1,p1.le (by omega),l1,u1,fun w c=>?_⟩
  simp (disch:=omega) [code152B0,hat,c1,c2,cd,e1]
 ·obtain ⟨O1,m1,⟨_,⟨n1,k1,rfl⟩,p1⟩,l1,u1,e1⟩:=s188 hb O X k h (by omega)
  refine ⟨O1,m1,_,.flat X _ (.record _ k1),p1.le (by omega),l1,u1,fun w c=>?_⟩
  simp (disch:=omega) [code152B0,hat,c1,c2,e1]
 ·obtain ⟨pc',pt',px',cc',ct',cx',nt',nx2,bud',cs,h1,h6,h9,h7,hkw,_,_,h8⟩:=h.put (b:=b) (x:=⟨18,0,0,[],[],[83],[104,105]⟩) hb (by omega) ⟨by decide,by decide,by decide,by decide⟩
  simp only [InsU.cells] at h7 h8
  have e:=hat.symm.trans h1
  simp only [ap,AObj.cells.injEq,eb,AVal.slice.injEq,AVal.int.injEq,true_and,and_true] at e
  obtain ⟨⟨rfl,rfl⟩,⟨rfl,rfl,rfl⟩,⟨rfl,rfl,rfl⟩,rfl⟩:=e
  obtain ⟨O4,m4,p4,l4,u4,e4⟩:=s150 h8 hb (by omega) (op:=58) (nn:=7)
  refine ⟨O4,min B.length m4,_,.flat X _ .ldc,by have:=p4.le (k':=k+J) (by omega); rw [WX.add_add] at this; exact this,by omega,by omega,fun w c=>?_⟩
  simp (disch:=omega) [code152B0,hat,c1,c2,-aAppend,h7,h6,h9,hkw,e4,InsU.cells,aq]
 ·obtain ⟨O1,m1,p1,l1,u1,e1⟩:=s150 h hb (by omega) (op:=25) (nn:=7)
  obtain ⟨O2,m2,p2,l2,u2,e2⟩:=s154 p1 hb (by omega) (op:=184) (c:=[115,121,115]) (m:=[112,114,105,110,116,84,101,120,116]) (d:=[40,91,66,41,86]) (by decide) (by decide) (by decide)
  refine ⟨O2,min m1 m2,_,.flat X _ .text,by have:=p2.le (k':=k+J) (by omega); rw [WX.add_add] at this; exact this,by omega,by omega,fun w c=>?_⟩
  simp (disch:=omega) [code152B0,hat,c1,c2,e1,e2,aq]
 all_goals
  obtain ⟨O2,m2,E,hE,p2,l2,u2,e2⟩:=dflt (.bool false)
  refine ⟨O2,m2,_,.flat X _ hE,p2.le (by omega),l2,u2,fun w c=>?_⟩
 ·simp (disch:=omega) [code152B0,hat,c1,c2,cd,e2]
 ·simp (disch:=omega) [code152B0,hat,c1,c2,cd,e2]
 ·simp (disch:=omega) [code152B0,hat,c1,c2,cd,e2]
 ·simp (disch:=omega) [code152B0,hat,c1,c2,e2]
end
def JJ:Nat→Nat
 | 0=>13
 | r+1=>6*JJ r+13
theorem s152_of (hb:b≤tN) {j J:Nat} (hJ:13≤J) (hs:dep < 3→Act GSs tN tb tv B b dep 209 [.ptr (some (B.length,0))] j) (hj:dep < 3→9+2*j≤J):Act GS tN tb tv B b dep 152 [.ptr (some (B.length,0))] J:=fun O X k h hk=>by
 obtain ⟨hlt,hBO⟩:=h.len
 obtain ⟨pc,pt,px,cc,ct,cx,nt,nx',bud,hat,hset⟩:=h.at'
 have h1:=hset dep (IntKind.i64.wrap (bud - 1))
 have hset2:∀ y,(O.set B.length y)[B.length]? = some y:=fun y=>by rw [a9,if_pos rfl,if_pos hBO]
 obtain ⟨r,O2,nx,g1,g2,g3,g4,g5,g6⟩:=h1.next hb (x:=16) (by decide) (by decide)
 obtain ⟨O3,m3,n3,q3,p3,l3,u3,e3⟩:=sw152 hb hJ hs hj g2 hk (r:=r) (by omega)
 obtain ⟨m',q4,q5,q6⟩:=nx_min g5 l3
 have hmm2:min B.length m'=m':=by omega
 refine ⟨O3,m',⟨n3,q3,p3⟩,q4,by omega,fun w=>?_⟩
 simp (disch:=omega) [-getElem?_pos,-getElem?_neg,-List.all_eq_true,gz,gs,nltT,nltF,iltT,iltF,ileT,nleT,cf,-sget,dy,dz,d7,az t152,code152,hat,hset2,g6,e3,q6,hmm2]
theorem s152 (hb:b≤tN):∀ (r:Nat) (dep:Int),0≤dep→dep≤3→3 - dep≤r→Act GS tN tb tv B b dep 152 [.ptr (some (B.length,0))] (JJ r)
 | 0,dep,h0,h1,h2=>s152_of (j:=0) hb (aj _) (fun h=>by omega) (fun h=>by omega)
 | r+1,dep,h0,h1,h2=>s152_of (j:=3*JJ r) hb (by simp only [JJ]; omega) (fun h=>s209 hb h0 (by omega) (s152 hb r (dep+1) (by omega) (by omega) (by omega))) (fun h=>by simp only [JJ]; omega)
end Go.Abs.AbsMk

namespace Go.Abs.AbsMk
open Go.Abs.AbsMake
open Go.Abs.AbsDesc hiding T
open Go.Abs.AbsHier hiding T sub
variable {os O B:List AObj} {b w:Nat} {tN:Nat} {tb:List UInt8} {tv:AVal} {dep:Int} {X:WX} {k:Nat}
theorem Ws.start {p:Nat} (ht:Tape O tN tb tv p) (hv:TapeV O tN tb tv):Ws tN tb tv O (O++[.cells 6 [.ptr (some (tN,0)),.slice none 0 (some 0),.slice none 0 (some 0),.slice none 0 (some 0),.int .i64 0,.int .i64 60]]) WX.nil 0 0:=by
 have hlt:=ah ht.at'
 refine ⟨none,none,none,some 0,some 0,some 0,[],60,?_,rfl,aj _,aj _,aj _⟩
 constructor
 ·intro i hi _; rw [ag hi]
 ·exact ⟨p,by rw [ag hlt]; exact ht.at',ht.le,ht.small⟩
 ·exact hv
 ·exact hlt
 ·rw [dh]; rfl
 ·exact ⟨fun _ _ e=>(by cases e),fun _=>⟨rfl,rfl⟩⟩
 ·exact ⟨fun _ _ e=>(by cases e),fun _=>⟨rfl,rfl⟩⟩
 ·exact ⟨fun _ _ e=>(by cases e),fun _=>⟨rfl,rfl⟩⟩
 ·exact fun _ _ _ e=>by cases e
 ·exact fun _ _ _ e=>by cases e
 ·exact fun _ _ _ e=>by cases e
 ·exact fun _ h=>by cases h
 ·exact fun _ h=>by cases h
 ·exact fun _ h=>by cases h
section
attribute [-simp] getElem?_pos getElem?_neg List.all_eq_true sget
attribute [local simp] gz gs nltT nltF iltT iltF ileT nleT cf dy dz d7
theorem l101 {j:Nat} {v2:AVal} {v8:List AVal} (hs:Act GS tN tb tv B b dep 152 [.ptr (some (B.length,0))] j):∀ (i:Nat) (O:List AObj) (X:WX) (k:Nat),i≤6→Ws tN tb tv B O X k dep→k+i*j≤100000 →
  ∃ O' m X',itS i X X'∧Ws tN tb tv B O' X' (k+i*j) dep∧tN≤m∧m≤B.length∧∀ (w:Nat) (c:AExit→St→Option (AVal × Heap)),w≤B.length →
   xK T (.loop code101L0) ⟨[(2,.val v2),(8,.var v8),(9,.val (.ptr (some (B.length,0)))),(12,.val (.int .i64 i))],⟨O,b,w⟩⟩ (k:=⟨c⟩)=c (.exit 2) ⟨[(2,.val v2),(8,.var v8),(9,.val (.ptr (some (B.length,0))))],⟨O',b,min w m⟩⟩
 | 0,O,X,k,_,h,hk=>by
  obtain ⟨hlt,hBO⟩:=h.len
  refine ⟨O,B.length,X,rfl,by simpa using h,by omega,aj _,fun w c hw=>?_⟩
  rw [dk]
  have hmm:min w B.length=w:=by omega
  simp (disch:=omega) [code101L0,hmm]
 | i+1,O,X,k,hi,h,hk=>by
  have hm:(i+1)*j=j+i*j:=by rw [dr,Nat.one_mul,Nat.add_comm]
  obtain ⟨O1,m1,⟨n1,q1,p1⟩,l1,u1,e1⟩:=hs O X k h (by omega)
  obtain ⟨O2,m2,n2,q2,p2,l2,u2,e2⟩:=l101 (v2:=v2) (v8:=v8) hs i O1 n1 (k+j) (by omega) p1 (by omega)
  have ek:k+j+i*j=k+(i+1)*j:=by omega
  rw [ek] at p2
  refine ⟨O2,min m1 m2,n2,⟨n1,q1,q2⟩,p2,by omega,by omega,fun w c hw=>?_⟩
  have e2:=e2 (min w m1) c (by omega)
  rw [dk]
  have c1:(0:Int) < (i:Int)+1:=by omega
  generalize ACode.loop code101L0=L at e2 ⊢
  simp (disch:=omega) [code101L0,e1,e2,c1,aq]
end
def Keep1 (O O':List AObj):Prop:=∀ (q:Nat) (cs:List AVal),O[q]? = some (.cells 1 cs)→O'[q]? = some (.cells 1 cs)
section
attribute [-simp] getElem?_pos getElem?_neg List.all_eq_true
attribute [local simp] gz gs nltT nltF iltT iltF ileT nleT cf
theorem s150k (h:Ws tN tb tv B O X k dep) (hb:b≤tN) (hk:k≤100000) {op nn:Int} :
  Did tN tb tv B b 150 [.ptr (some (B.length,0)),.int .u8 op,.int .i64 nn] (.tuple []) O fun O'=>Ws tN tb tv B O' (X.add [opI op nn]) (k+1) dep∧Keep1 O O':=by
 obtain ⟨pc,pt,px,cc,ct,cx,nt,nx,bud,cs,h1,h2,h3,h4,h5,h6,h7,h8⟩:=h.code (x:=⟨op,nn,0,[],[],[],[]⟩) hb hk ⟨by simp,by simp,by simp,by simp⟩
 have hkeep:Keep1 O ((killO pc O++[AObj.cells 7 (InsU.cells ⟨op,nn,0,[],[],[],[]⟩),AObj.cells 7 cs]).set B.length (.cells 6 [.ptr (some (tN,0)),.slice (some (O.length+1,0)) (X.C.length+1) none,.slice pt nt ct,.slice px nx cx,.int .i64 dep,.int .i64 bud])):=fun q cs' hq=>by
  have hql:=ah hq
  have hne:B.length≠q:=fun e=>by rw [← e,h1] at hq; simp at hq
  rw [al hne,ag (by simpa using hql),kill_get fun o e=>?_]
  ·exact hq
  ·obtain ⟨pc',_,_,_,_,_,_,_,hW,_⟩:=h.ex
   have e1:=h1.symm.trans hW.wr
   simp only [wrO,ap,AObj.cells.injEq,eb,AVal.slice.injEq,true_and,and_true] at e1
   obtain ⟨⟨e2,_⟩,_⟩:=e1
   have:=(hW.c.some q o (by rw [← e2]; exact e)).2.2.2
   rw [hq] at this; simp at this
 refine ⟨_,B.length,⟨h8,hkeep⟩,by omega,aj _,fun w=>?_⟩
 have hkw:=h5 O.length (by omega)
 have h9:∀ Y,(killO pc O++Y)[B.length]? = _:=fun Y=>(ag (l₂:=Y) (by simpa using h3)).trans h6
 simp only [InsU.cells] at h7
 simp (disch:=omega) [az t150,code150,-aAppend,h1,h7,h6,h9,hkw,InsU.cells]
theorem s153k (h:Ws tN tb tv B O X k dep) (hb:b≤tN) (hk:k≤100000) {x:Int} (hx:-100≤x) (hx2:x≤200) :
  Did tN tb tv B b 153 [.ptr (some (B.length,0)),.int .i64 x] (.tuple []) O fun O'=>Ws tN tb tv B O' (X.add [numI x]) (k+1) dep∧Keep1 O O':=by
 obtain ⟨_,hBO⟩:=h.len
 have c5:-128≤x:=by omega
 have c6:-32768≤x:=by omega
 have c7:x < 32768:=by omega
 have c8:IntKind.i64.wrap (3+x)=3+x:=cf (by omega)
 by_cases c3:-1≤x∧x≤5
 ·have hnum:numI x=opI (IntKind.u8.wrap (3+x)) 0:=by unfold numI; rw [if_pos c3]
  rw [hnum]
  obtain ⟨c1,c2⟩:=c3
  obtain ⟨O1,m1,p1,l1,u1,e1⟩:=s150k h hb hk (op:=IntKind.u8.wrap (3+x)) (nn:=0)
  refine ⟨O1,m1,p1,l1,u1,fun w=>?_⟩
  simp (disch:=omega) [az t153,code153,e1,c1,c2,c8]
 ·by_cases c4:x < 128
  ·have hnum:numI x=opI 16 x:=by unfold numI; rw [if_neg c3,if_pos c4]
   rw [hnum]
   obtain ⟨O1,m1,p1,l1,u1,e1⟩:=s150k h hb hk (op:=16) (nn:=x)
   refine ⟨O1,m1,p1,l1,u1,fun w=>?_⟩
   by_cases c1:-1≤x
   ·have c2:¬ x≤5:=fun e=>c3 ⟨c1,e⟩
    simp (disch:=omega) [az t153,code153,e1,c1,c2,c4,c5]
   ·simp (disch:=omega) [az t153,code153,e1,c1,c4,c5]
  ·have hnum:numI x=opI 17 x:=by unfold numI; rw [if_neg c3,if_neg c4]
   rw [hnum]
   obtain ⟨O1,m1,p1,l1,u1,e1⟩:=s150k h hb hk (op:=17) (nn:=x)
   refine ⟨O1,m1,p1,l1,u1,fun w=>?_⟩
   have c1:-1≤x:=by omega
   have c2:¬ x≤5:=by omega
   simp (disch:=omega) [az t153,code153,e1,c1,c2,c4,c5,c6,c7]
end
def rowT:List AVal:=[.int .i64 1,.int .i64 2]
def setL:Nat→Nat→List InsU→Prop
 | 0,_,E=>E=[]
 | j+1,i,E=>∃ (r:Nat) (y:Int) (E':List InsU),r < 4∧rowT[i]? = some (.int .i64 y)∧setL j (i+1) E'∧E=[numI r,opI 54 y]++E'
section
attribute [-simp] getElem?_pos getElem?_neg List.all_eq_true sget
attribute [local simp] gz gs nltT nltF iltT iltF ileT nleT cf dy dz d7
theorem l101b (hb:b≤tN) {q:Nat} {v2 v3:AVal} {v8:List AVal} (hq:B.length < q):∀ (j i:Nat) (O:List AObj) (X:WX) (k:Nat),i+j=2→O[q]? = some (.cells 1 rowT)→Ws tN tb tv B O X k dep→k+2*j≤100000 →
  ∃ O' m E,setL j i E∧Ws tN tb tv B O' (X.add E) (k+2*j) dep∧tN≤m∧m≤B.length∧∀ (w:Nat) (c:AExit→St→Option (AVal × Heap)),w≤B.length∨0 < j →
   xK T (.loop code101L1) ⟨[(0,.val (.ptr (some (tN,0)))),(2,.val v2),(3,.val v3),(8,.var v8),(9,.val (.ptr (some (B.length,0)))),(43,.val (.slice (some (q,0)) 2 (some 2))),(44,.val (.int .i64 2)),(45,.val (.int .i64 i))],⟨O,b,w⟩⟩ (k:=⟨c⟩) =
    c (.exit 0) ⟨[(0,.val (.ptr (some (tN,0)))),(2,.val v2),(3,.val v3),(8,.var v8),(9,.val (.ptr (some (B.length,0))))],⟨O',b,min w m⟩⟩
 | 0,i,O,X,k,hi,hO,h,hk=>by
  obtain ⟨hlt,hBO⟩:=h.len
  obtain rfl:i=2:=by omega
  refine ⟨O,B.length,[],rfl,by simpa [WX.add] using h,by omega,aj _,fun w c hw=>?_⟩
  have hmm:min w B.length=w:=by omega
  rw [dk]
  simp (disch:=omega) [code101L1,hmm]
 | j+1,i,O,X,k,hi,hO,h,hk=>by
  obtain ⟨hlt,hBO⟩:=h.len
  obtain ⟨y,hy⟩:∃ y,rowT[i]? = some (.int .i64 y):=by
   have:i=0∨i=1:=by omega
   rcases this with rfl | rfl <;> exact ⟨_,rfl⟩
  obtain ⟨r2,O1,nx,g1,g2,g3,g4,g5,g6⟩:=h.next hb (x:=4) (by decide) (by decide)
  obtain ⟨O2,m2,⟨p2,k2⟩,l2,u2,e2⟩:=s153k g2 hb (by omega) (x:=r2) (by omega) (by omega)
  obtain ⟨m',q1,q2,q3⟩:=nx_min g5 l2
  obtain ⟨O3,m3,⟨p3,k3⟩,l3,u3,e3⟩:=s150k p2 hb (by omega) (op:=54) (nn:=y)
  have hO3:O3[q]? = some (.cells 1 rowT):=k3 q _ (k2 q _ (by rw [g4 q (by omega)]; exact hO))
  obtain ⟨O4,m4,n4,q4,p4,l4,u4,e4⟩:=l101b (v2:=v2) (v3:=v3) (v8:=v8) hb hq j (i+1) O3 _ (k+1+1) (by omega) hO3 p3 (by omega)
  refine ⟨O4,min m' (min m3 m4),_,⟨r2,y,n4,by omega,hy,q4,rfl⟩,by have:=p4.le (k':=k+2*(j+1)) (by omega); rw [WX.add_add,WX.add_add,← bh] at this; exact this,by omega,by omega,fun w c hw=>?_⟩
  have e4:=e4 (min w (min m' m3)) c (.inl (by omega))
  have e5:((i+1:Nat):Int)=(i:Int)+1:=by omega
  have c1:(i:Int) < 2:=by omega
  have c2:((i:Nat):Int)+1≤9223372036854775807:=by omega
  rw [e5] at e4
  rw [dk]
  have hrl:rowT.length=2:=rfl
  generalize ACode.loop code101L1=L at e4 ⊢
  generalize rowT=R at *
  simp (disch:=omega) [code101L1,c1,hO,hy,hrl,g6,e2,q3,e3,e4,aq]
end
end Go.Abs.AbsMk

namespace Go.Abs.AbsMk
open Go.Abs.AbsMake
open Go.Abs.AbsDesc hiding T
open Go.Abs.AbsHier hiding T sub
variable {os O B:List AObj} {b w:Nat} {tN:Nat} {tb:List UInt8} {tv:AVal} {dep:Int} {X:WX} {k:Nat} {pc pt px:Option (Nat × Nat)} {cc ct cx:Option Nat} {C:List InsU} {S:List TrapU} {M:List MapU} {bud:Int}
def descII:Str:=[40,73,41,73]
structure Made (O:List AObj) (tN:Nat) (tb:List UInt8) (tv:AVal) (st:Bool) (nm:Str) (O':List AObj) (m:MethU):Prop where
 st:m.st=st
 name:m.name=nm
 desc:m.desc=descII
 ok:m.ok O'
 over:m.over O.length
 fits:m.fits
 keep:∀ i,i < O.length→i≠tN→O'[i]? = O[i]?
 tape:∃ p,Tape O' tN tb tv p
 traps:∀ x ∈ m.traps,x.cls ∈ classesT
 body:Body m
 short:m.code.length≤100000∧m.traps.length≤100000
theorem Body.ren {m:MethU} (h:Body m) (f:Nat→Nat):Body (m.ren f):=by
 rcases h with ⟨h1,h2,h3,X,h4,h5,h6,h7⟩ | ⟨h1,h2,h3,h4,h5,h6⟩
 ·refine .inl ⟨h1,h2,h3,X,h4,h5,h6,?_⟩
  rw [← h7]
  show (m.maps.map (MapU.ren f)).map _=_
  rw [List.map_map]; rfl
 ·exact .inr ⟨h1,h2,h3,h4,by show m.maps.map _=[]; rw [h5]; rfl,h6⟩
theorem short_big {x:Nat} (h:x≤100):x≤big:=by show x≤9223372036854775807; omega
theorem short_reach {x:Nat} (h:x≤100000):x≤reachB:=by show x≤140737488351232; omega
theorem cls_short {s:Str} (h:s ∈ classesT):s.length≤100:=by
 have:∀ t ∈ classesT,t.length≤100:=by decide
 exact this s h
theorem Wr.meth (h:Wr tN tb tv B O pc pt px cc ct cx C S M dep bud) (hc:C.length≤100000) (hS:S.length≤100000) (hM:M.length≤100000) {nm:Str} (hn:nm.length≤100) {st:Bool} {a l:Int} (hbd:Body ⟨st,nm,descII,a,l,C,pc,cc,S,pt,ct,M,px,cx⟩) :
  Made B tN tb tv st nm O ⟨st,nm,descII,a,l,C,pc,cc,S,pt,ct,M,px,cx⟩ where
 st:=rfl
 name:=rfl
 desc:=rfl
 ok:=⟨short_big hn,(show descII.length≤big by decide),Own.row (f:=InsU.cells) (fun _=>rfl) h.c,by show C.length≤9223372036854775807; omega,fun i o e=>ah (h.c.some i o e).2.2.2,fun x hx=>⟨short_big (h.cok x hx).cls,short_big (h.cok x hx).name,short_big (h.cok x hx).desc,short_big (h.cok x hx).text⟩,
  Own.row (f:=TrapU.cells) (fun _=>rfl) h.s,by show S.length≤9223372036854775807; omega,fun i o e=>ah (h.s.some i o e).2.2.2,fun x hx=>short_big (cls_short (h.sok x hx)),
  Own.row (f:=MapU.cells) (fun _=>rfl) h.m,by show M.length≤9223372036854775807; omega,fun i o e=>ah (h.m.some i o e).2.2.2,fun x hx=>by
   obtain ⟨h1,h2⟩:=h.mok x hx
   exact ⟨h1.row,short_big h1.len,fun i o e=>(h1.at' i o e).2.1,h2.row,short_big h2.len,fun i o e=>(h2.at' i o e).2.1,fun t ht=>by
    rcases bf.1 ht with ht | ht
    ·exact short_big (h1.short t ht)
    ·exact short_big (h2.short t ht)⟩⟩
 over:=⟨fun i o e=>gh (h.c.some i o e).2.2.1,fun i o e=>gh (h.s.some i o e).2.2.1,fun i o e=>gh (h.m.some i o e).2.2.1,fun x hx=>by
  obtain ⟨h1,h2⟩:=h.mok x hx
  exact ⟨fun i o e=>gh (h1.at' i o e).1,fun i o e=>gh (h2.at' i o e).1⟩⟩
 fits:=⟨short_reach (by show nm.length≤_; omega),short_reach (show descII.length≤100000 by decide),short_reach hc,fun x hx=>⟨short_reach (bl (h.cok x hx).cls (by decide)),short_reach (bl (h.cok x hx).name (by decide)),short_reach (bl (h.cok x hx).desc (by decide)),short_reach (bl (h.cok x hx).text (by decide))⟩,
  short_reach hS,fun x hx=>short_reach (bl (cls_short (h.sok x hx)) (by decide)),short_reach hM,fun x hx=>by
   obtain ⟨h1,h2⟩:=h.mok x hx
   exact ⟨short_reach (bl h1.len (by decide)),short_reach (bl h2.len (by decide)),fun t ht=>short_reach (bl (h1.short t ht) (by decide)),fun t ht=>short_reach (bl (h2.short t ht) (by decide))⟩⟩
 keep:=h.keep
 tape:=h.tape
 traps:=h.sok
 body:=hbd
 short:=⟨hc,hS⟩
theorem Wr.meth2 (h:Wr tN tb tv B O pc pt px cc ct cx C S M dep bud) (hc:C.length≤100000) {nm:Str} (hn:nm.length≤100) {st:Bool} {a l:Int} (hbd:Body ⟨st,nm,descII,a,l,C,pc,cc,[],none,some 0,[],none,some 0⟩) :
  Made B tN tb tv st nm O ⟨st,nm,descII,a,l,C,pc,cc,[],none,some 0,[],none,some 0⟩:=by
 have h0:(0:Nat)≤reachB:=bz _
 refine ⟨rfl,rfl,rfl,⟨short_big hn,(show descII.length≤big by decide),Own.row (f:=InsU.cells) (fun _=>rfl) h.c,by show C.length≤9223372036854775807; omega,fun i o e=>ah (h.c.some i o e).2.2.2,fun x hx=>⟨short_big (h.cok x hx).cls,short_big (h.cok x hx).name,short_big (h.cok x hx).desc,short_big (h.cok x hx).text⟩,
  ⟨fun h=>absurd rfl h⟩,bz _,fun i o e=>(by cases e),fun x hx=>(by cases hx),⟨fun h=>absurd rfl h⟩,bz _,fun i o e=>(by cases e),fun x hx=>(by cases hx)⟩,
  ⟨fun i o e=>gh (h.c.some i o e).2.2.1,fun i o e=>(by cases e),fun i o e=>(by cases e),fun x hx=>by cases hx⟩,
  ⟨short_reach (by show nm.length≤_; omega),short_reach (show descII.length≤100000 by decide),short_reach hc,fun x hx=>⟨short_reach (bl (h.cok x hx).cls (by decide)),short_reach (bl (h.cok x hx).name (by decide)),short_reach (bl (h.cok x hx).desc (by decide)),short_reach (bl (h.cok x hx).text (by decide))⟩,h0,fun x hx=>(by cases hx),h0,fun x hx=>by cases hx⟩,h.keep,h.tape,(fun x hx=>by cases hx),hbd,hc,bz _⟩
theorem Made.fin {O1:List AObj} {st:Bool} {nm:Str} {m:MethU} (h:Made O tN tb tv st nm O1 m) (ht:∃ p,Tape O tN tb tv p) (hne:∃ i o,m.ca=some (i,o)) (w W:Nat) :
  ∃ m' O' w',finish ⟨O,b,w⟩ (.agg m.cells) ⟨O1,b,W⟩=(.agg m'.cells,⟨O',b,w'⟩)∧Made O tN tb tv st nm O' m'∧(w'=min w W∨w'=w):=by
 have hv:(AVal.agg m.cells).under (⟨O,b,w⟩:Heap).size=false:=by
  obtain ⟨i,o,e⟩:=hne
  have:=h.over.c i o e
  have h2:¬ i < O.length:=by omega
  simp [MethU.cells,AVal.under,AVal.unders,e,Heap.size,h2]
 rcases finish_cases (h:=⟨O1,b,W⟩) hv with ⟨w',h1,h2⟩ | ⟨h1,f,I,X,h2,h3,h4⟩
 ·exact ⟨m,O1,w',h1,h,by rcases h2 with h2 | h2 <;> simp_all⟩
 ·refine ⟨m.ren f,O++X,w,?_,⟨h.st,h.name,h.desc,h.ok.move h3 h.over h4,?_,?_,fun i hi _=>ag hi,?_,h.traps,h.body.ren f,h.short⟩,.inr rfl⟩
  ·rw [h2]
   simp only [AVal.ren,ren_meth]
  ·exact h.over.ren h3.up
  ·exact h.fits.ren
  ·obtain ⟨p,hp⟩:=ht
   exact ⟨p,by rw [ag (ah hp.at')]; exact hp.at',hp.le,hp.small⟩
end Go.Abs.AbsMk

namespace Go.Abs.AbsMk
open Go.Abs.AbsMake
open Go.Abs.AbsDesc hiding T
open Go.Abs.AbsHier hiding T sub
variable {os O B:List AObj} {b w:Nat} {tN:Nat} {tb:List UInt8} {tv:AVal} {dep:Int} {X:WX} {k:Nat}
theorem Ws.made (h:Ws tN tb tv B O X k dep) (hX:GB X) (hn0:0 < X.C.length) (hk:k≤100000) {a0 a4 a5:AVal} {pc pt px:Option (Nat × Nat)} {n' nt nx:Nat} {cc ct cx:Option Nat} (hat:O[B.length]? = some (.cells 6 [a0,.slice pc n' cc,.slice pt nt ct,.slice px nx cx,a4,a5])) {nm:Str} (hn:nm.length≤100) :
  (∃ i o,pc=some (i,o))∧∃ m:MethU,m.cells=[.bool true,.str nm,.str descII,.int .i64 40,.int .i64 8,.slice pc n' cc,.slice pt nt ct,.slice px nx cx]∧m.ca=pc∧Made B tN tb tv true nm O m:=by
 obtain ⟨pc',pt',px',cc',ct',cx',M,bud,hW,hMk,h2,h3,h4⟩:=h.ex
 have e:=hat.symm.trans hW.wr
 simp only [wrO,ap,AObj.cells.injEq,eb,AVal.slice.injEq,true_and,and_true] at e
 obtain ⟨_,⟨rfl,rfl,rfl⟩,⟨rfl,rfl,rfl⟩,⟨rfl,rfl,rfl⟩,_⟩:=e
 refine ⟨?_,⟨_,rfl,rfl,hW.meth (by omega) (by omega) (by omega) hn (.inl ⟨rfl,rfl,rfl,X,hX,rfl,rfl,hMk⟩)⟩⟩
 cases pc with
 | none=>have:=(hW.c.none rfl).1; rw [this] at hn0; simp at hn0
 | some q=>exact ⟨q.1,q.2,rfl⟩
theorem Ws.made2 (h:Ws tN tb tv B O X k dep) {y:Int} (hy:y ∈ acts101) (hX:X.C=codeV y) (hk:k≤100000) {a0 a4 a5:AVal} {pc pt px:Option (Nat × Nat)} {n' nt nx:Nat} {cc ct cx:Option Nat} (hat:O[B.length]? = some (.cells 6 [a0,.slice pc n' cc,.slice pt nt ct,.slice px nx cx,a4,a5])) {nm:Str} (hn:nm.length≤100) :
  (∃ i o,pc=some (i,o))∧∃ m:MethU,m.cells=[.bool false,.str nm,.str descII,.int .i64 8,.int .i64 2,.slice pc n' cc,.slice none 0 (some 0),.slice none 0 (some 0)]∧m.ca=pc∧Made B tN tb tv false nm O m:=by
 obtain ⟨pc',pt',px',cc',ct',cx',M,bud,hW,hMk,h2,h3,h4⟩:=h.ex
 have e:=hat.symm.trans hW.wr
 simp only [wrO,ap,AObj.cells.injEq,eb,AVal.slice.injEq,true_and,and_true] at e
 obtain ⟨_,⟨rfl,rfl,rfl⟩,⟨rfl,rfl,rfl⟩,⟨rfl,rfl,rfl⟩,_⟩:=e
 refine ⟨?_,⟨_,rfl,rfl,hW.meth2 (by omega) hn (.inr ⟨rfl,rfl,rfl,rfl,rfl,y,hy,hX⟩)⟩⟩
 cases pc with
 | none=>have:=(hW.c.none rfl).1; rw [hX] at this; cases this
 | some q=>exact ⟨q.1,q.2,rfl⟩
theorem s101a {p:Nat} (ht:Tape O tN tb tv p) (hv:TapeV O tN tb tv) (hb:b≤tN) {nm:Str} (hn:nm.length≤100) {most:Int} (w:Nat) :
  ∃ m O' w',xCall T 101 [.ptr (some (tN,0)),.bool false,.str nm,.int .i64 most] ⟨O,b,w⟩=some (.agg m.cells,⟨O',b,w'⟩)∧Made O tN tb tv false nm O' m∧min w tN≤w'∧w'≤w:=by
 have h:=Ws.start ht hv
 have hlt:=ah ht.at'
 obtain ⟨O1,m1,p1,l1,u1,e1⟩:=s150 h hb (by omega) (op:=21) (nn:=1)
 obtain ⟨O2,m2,p2,l2,u2,e2⟩:=s153 p1 hb (by omega) (x:=3) (by omega) (by omega)
 obtain ⟨O3,m3,p3,l3,u3,e3⟩:=s150 p2 hb (by omega) (op:=96) (nn:=0)
 obtain ⟨O4,m4,p4,l4,u4,e4⟩:=s150 p3 hb (by omega) (op:=25) (nn:=0)
 obtain ⟨O5,m5,p5,l5,u5,e5⟩:=s154 p4 hb (by omega) (op:=180) (c:=[65]) (m:=[102]) (d:=[73]) (by decide) (by decide) (by decide)
 obtain ⟨r2,O6,nx,g1,g2,g3,g4,g5,g6⟩:=(p5.app [.cells 1 (acts101.map (AVal.int .u8))]).next hb (x:=3) (by decide) (by decide)
 obtain ⟨y,hy,hym⟩:=bytes_get acts101 (r:=r2) (by simp only [acts101,bp,a7]; omega)
 obtain ⟨O7,m7,p7,l7,u7,e7⟩:=s150 g2 hb (by omega) (op:=y) (nn:=0)
 obtain ⟨O8,m8,p8,l8,u8,e8⟩:=s150 p7 hb (by omega) (op:=172) (nn:=0)
 obtain ⟨m',q1,q2,q3⟩:=nx_min g5 l7
 have g7:=g4 O5.length (by have:=p5.len.2; omega)
 rw [dh] at g7
 simp only [acts101,cr,gg] at g6 g7 hy
 obtain ⟨pc,pt,px,cc,ct,cx,nt,nx',bud,hat,_⟩:=p8.at'
 obtain ⟨hne,m,hm1,hm2,hm3⟩:=p8.made2 hym rfl (by omega) hat hn
 have hf:=fun W=>hm3.fin (b:=b) ⟨p,ht⟩ (by rw [hm2]; exact hne) w W
 obtain ⟨m'',O',w',f1,f2,f3⟩:=hf (min m1 (min m2 (min m3 (min m4 (min m5 (min m' m8))))))
 refine ⟨m'',O',w',?_,f2,by omega,by omega⟩
 rw [hm1] at f1
 simp only [descII,dc,Nat.reduceAdd] at f1
 simp (disch:=omega) [-getElem?_pos,-getElem?_neg,-List.all_eq_true,gz,gs,nltT,nltF,iltT,iltF,ileT,nleT,cf,-sget,dy,dz,d7,-finish,az t101,code101,e1,e2,e3,e4,e5,g6,g7,hy,e7,q3,e8,hat,f1,aq]
def zeroM:List AVal:=[.bool false,.str [],.str [],.int .i64 0,.int .i64 0,.slice none 0 (some 0),.slice none 0 (some 0),.slice none 0 (some 0)]
section
attribute [-simp] getElem?_pos getElem?_neg List.all_eq_true sget
attribute [local simp] gz gs nltT nltF iltT iltF ileT nleT cf dy dz d7
theorem t101_0 (h:Ws tN tb tv B O X k 0) {x y z:Nat} (hx:x < 4) (hy:y < 4) (hz:z < 5) (hX:X=WX.nil.add (preB x y z)) (hb:b≤tN) {j:Nat} (hs:Act GS tN tb tv B b 0 152 [.ptr (some (B.length,0))] j) (hk:k+(6*j+6)≤100000) {nm:Str} (hn:nm.length≤100) {most:Int} (hm1:1≤most) (hm6:most≤6) :
  ∃ (O':List AObj) (W:Nat) (m:MethU),(∃ i o,m.ca=some (i,o))∧tN≤W∧W≤B.length∧Made B tN tb tv true nm O' m∧∀ (w:Nat) (c:AExit→St→Option (AVal × Heap)),w≤B.length →
   xK T code101T0 ⟨[(0,.val (.ptr (some (tN,0)))),(2,.val (.str nm)),(3,.val (.int .i64 most)),(8,.var zeroM),(9,.val (.ptr (some (B.length,0))))],⟨O,b,w⟩⟩ (k:=⟨c⟩)=c .ret ⟨[(8,.var m.cells)],⟨O',b,min w W⟩⟩:=by
 obtain ⟨hlt,hBO⟩:=h.len
 obtain ⟨r,O1,nx,g1,g2,g3,g4,g5,g6⟩:=h.next hb (x:=most) hm1 (by omega)
 have hrj:(r+1)*j≤6*j:=d9 _ (by omega)
 obtain ⟨O2,m2,n2,q2,p2,l2,u2,e2⟩:=l101 (v2:=.str nm) (v8:=zeroM) hs (r+1) O1 X k (by omega) g2 (by omega)
 have hi1:Expr GI tN tb tv B b 0 151 1 5:=(expr_all hb 1 1 (by decide) (by decide) (by decide)).1
 obtain ⟨O3,m3,⟨n3,k3,p3⟩,l3,u3,e3⟩:=hi1 O2 _ _ p2 (by omega)
 obtain ⟨O4,m4,p4,l4,u4,e4⟩:=s150 p3 hb (by omega) (op:=172) (nn:=0)
 obtain ⟨pc,pt,px,cc,ct,cx,nt,nx',bud,hat,_⟩:=p4.at'
 rw [WX.add_add] at p4
 have hgb:GB (n2.add (n3++[opI 172 0])):=.mk x y z n2 n3 hx hy hz (by rw [← hX]; exact itS_some q2) k3
 obtain ⟨hne,m,hm,hm2,hm3⟩:=p4.made hgb (by rw [dv]; simp; omega) (by omega) hat hn
 obtain ⟨m',q4,q5,q6⟩:=nx_min g5 l2
 refine ⟨O4,min m' (min m3 m4),m,by rw [hm2]; exact hne,by omega,by omega,hm3,fun w c hw=>?_⟩
 have e2:=fun c=>e2 (nx w) c (by rcases g5 with g | g <;> rw [g] <;> omega)
 simp only [Int.natCast_add,b7] at e2
 have er:(1:Int)+r=r+1:=by omega
 rw [hm]
 simp only [descII,zeroM] at e2 ⊢
 simp (disch:=omega) [code101T0,code101R0,g6,er,e2,q6,e3,e4,hat,aq]
theorem t101_1 (h:Ws tN tb tv B O X k 0) {x y:Nat} (hx:x < 4) (hy:y < 4) (hX:X=WX.nil.add [numI x,opI 54 1,numI y,opI 54 2]) (hb:b≤tN) {j:Nat} (hs:Act GS tN tb tv B b 0 152 [.ptr (some (B.length,0))] j) (hk:k+(6*j+16)≤100000) {nm:Str} (hn:nm.length≤100) {most:Int} (hm1:1≤most) (hm6:most≤6) :
  ∃ (O':List AObj) (W:Nat) (m:MethU),(∃ i o,m.ca=some (i,o))∧tN≤W∧W≤B.length∧Made B tN tb tv true nm O' m∧∀ (w:Nat) (c:AExit→St→Option (AVal × Heap)),w≤B.length →
   xK T code101T1 ⟨[(0,.val (.ptr (some (tN,0)))),(2,.val (.str nm)),(3,.val (.int .i64 most)),(8,.var zeroM),(9,.val (.ptr (some (B.length,0))))],⟨O,b,w⟩⟩ (k:=⟨c⟩)=c .ret ⟨[(8,.var m.cells)],⟨O',b,min w W⟩⟩:=by
 obtain ⟨hlt,hBO⟩:=h.len
 obtain ⟨O1,m1,p1,l1,u1,e1⟩:=s150 h hb (by omega) (op:=10) (nn:=0)
 obtain ⟨O2,m2,p2,l2,u2,e2⟩:=s150 p1 hb (by omega) (op:=55) (nn:=3)
 obtain ⟨pc,pt,px,cc,ct,cx,nt,nx',bud,cs,h1,h6,h9,h7,hkw,_,_,p3⟩:=p2.put (b:=b) (x:=⟨187,0,0,[65],[],[],[]⟩) hb (by omega) ⟨by decide,by decide,by decide,by decide⟩
 simp only [InsU.cells] at h7 p3
 obtain ⟨O4,m4,p4,l4,u4,e4⟩:=s150 p3 hb (by omega) (op:=58) (nn:=5)
 obtain ⟨r,O5,nx,g1,g2,g3,g4,g5,g6⟩:=p4.next hb (x:=5) (by decide) (by decide)
 obtain ⟨O6,m6,p6,l6,u6,e6⟩:=s153 g2 hb (by omega) (x:=r) (by omega) (by omega)
 obtain ⟨m',q1,q2,q3⟩:=nx_min g5 l6
 obtain ⟨O7,m7,p7,l7,u7,e7⟩:=s150 p6 hb (by omega) (op:=188) (nn:=10)
 obtain ⟨O8,m8,p8,l8,u8,e8⟩:=s150 p7 hb (by omega) (op:=58) (nn:=6)
 obtain ⟨O9,m9,p9,l9,u9,e9⟩:=s150 p8 hb (by omega) (op:=1) (nn:=0)
 obtain ⟨O10,m10,p10,l10,u10,e10⟩:=s150 p9 hb (by omega) (op:=58) (nn:=7)
 obtain ⟨O',W,m,hne,hW1,hW2,hM,e11⟩:=t101_0 p10 hx hy (show r < 5 by omega) (by rw [hX]; rfl) hb hs (by omega) hn hm1 hm6
 refine ⟨O',min m1 (min m2 (min B.length (min m4 (min m' (min m7 (min m8 (min m9 (min m10 W)))))))),m,hne,by omega,by omega,hM,fun w c hw=>?_⟩
 generalize zeroM=z at *
 simp (disch:=omega) [code101T1,e1,e2,-aAppend,h1,h7,h6,h9,hkw,e4,g6,e6,q3,e7,e8,e9,e10,e11,aq]
end
end Go.Abs.AbsMk

namespace Go.Abs.AbsMk
open Go.Abs.AbsMake
open Go.Abs.AbsDesc hiding T
open Go.Abs.AbsHier hiding T sub
variable {os O B:List AObj} {b w:Nat} {tN:Nat} {tb:List UInt8} {tv:AVal} {dep:Int} {X:WX} {k:Nat}
theorem s101b {p:Nat} (ht:Tape O tN tb tv p) (hv:TapeV O tN tb tv) (hb:b≤tN) {nm:Str} (hn:nm.length≤100) {most:Int} (hm1:1≤most) (hm6:most≤6) (w:Nat) :
  ∃ m O' w',xCall T 101 [.ptr (some (tN,0)),.bool true,.str nm,.int .i64 most] ⟨O,b,w⟩=some (.agg m.cells,⟨O',b,w'⟩)∧Made O tN tb tv true nm O' m∧min w tN≤w'∧w'≤w:=by
 have h:=(Ws.start ht hv).app [.cells 1 rowT]
 have hlt:=ah ht.at'
 have hJ:JJ 3=3367:=rfl
 have hs:Act GS tN tb tv O b 0 152 [.ptr (some (O.length,0))] (JJ 3):=s152 hb 3 0 (by decide) (by decide) (by decide)
 obtain ⟨O1,m1,n1,k1,p1,l1,u1,e1⟩:=l101b (v2:=.str nm) (v3:=.int .i64 most) (v8:=zeroM) hb (q:=O.length+1) (by omega) 2 0 _ WX.nil 0 rfl (by rw [bh,f0]; rfl) h (by omega)
 obtain ⟨x,y,hx,hy,hE⟩:∃ x y:Nat,x < 4∧y < 4∧WX.nil.add n1=WX.nil.add [numI x,opI 54 1,numI y,opI 54 2]:=by
  obtain ⟨x,x1,E1,h1,h2,⟨y,y1,E2,h3,h4,h5,rfl⟩,rfl⟩:=k1
  rw [show E2=[] from h5]
  cases h2; cases h4
  exact ⟨x,y,h1,h3,rfl⟩
 obtain ⟨O2,W,m,hne,hW1,hW2,hM,e2⟩:=t101_1 p1 hx hy hE hb hs (by omega) hn hm1 hm6
 obtain ⟨m'',O',w',f1,f2,f3⟩:=hM.fin (b:=b) ⟨p,ht⟩ hne w (min m1 W)
 refine ⟨m'',O',w',?_,f2,by omega,by omega⟩
 have e1:=fun w c=>e1 w c (.inr (by decide))
 have e2:=fun c=>e2 m1 c u1
 simp only [zeroM,rowT,b7,bh,b9,b0] at e1 e2
 have hml:m.cells.length=8:=rfl
 have htk:List.take 8 m.cells=m.cells:=rfl
 generalize m.cells=z at *
 simp (disch:=omega) [-getElem?_pos,-getElem?_neg,-List.all_eq_true,gz,gs,nltT,nltF,iltT,iltF,ileT,nleT,cf,-sget,dy,dz,d7,-finish,az t101,code101,e1,e2,f1,hml,htk,aq]
end Go.Abs.AbsMk

namespace Go.Abs.AbsMk
open Go.Abs.AbsMake
open Go.Abs.AbsDesc hiding T
open Go.Abs.AbsHier hiding T sub
variable {os O P Q B:List AObj} {b w:Nat} {tN:Nat} {tb:List UInt8} {tv:AVal} {n:Nat}
structure KeepX (t:Nat) (P Q:List AObj):Prop where
 at':∀ i o,i≠t→P[i]? = some o→Q[i]? = some o
 len:P.length≤Q.length
theorem KeepX.app (t:Nat) (P X:List AObj):KeepX t P (P++X):=⟨fun i o _ h=>by rw [ag (ah h)]; exact h,by simp⟩
theorem KeepX.set (t:Nat) (P:List AObj) (y:AObj):KeepX t P (P.set t y):=⟨fun i o h1 h=>by rw [al (Ne.symm h1)]; exact h,by simp⟩
theorem KeepX.trans {A B C:List AObj} {t:Nat} (h:KeepX t A B) (k:KeepX t B C):KeepX t A C:=⟨fun i o h1 h2=>k.at' i o h1 (h.at' i o h1 h2),bl h.len k.len⟩
theorem Made.keepX {st:Bool} {nm:Str} {m:MethU} (h:Made P tN tb tv st nm Q m):KeepX tN P Q:=by
 have hat:∀ i o,i≠tN→P[i]? = some o→Q[i]? = some o:=fun i o h1 h2=>by rw [h.keep i (ah h2) h1]; exact h2
 refine ⟨hat,?_⟩
 rcases ja P.length with h0 | h0
 ·omega
 ·obtain ⟨p,hp⟩:=h.tape
  have h3:=ah hp.at'
  by_cases e:P.length - 1=tN
  ·omega
  ·have:=ah (hat (P.length - 1) _ e (ak (by omega)))
   omega
theorem KeepX.row {t:Nat} (h:KeepX t P Q) {α:Type} {e:Nat} {f:α→List AVal} {L:List α} {a:Option (Nat × Nat)} (ho:over n a) (hn:t < n) (hR:Row P e f L a):Row Q e f L a :=
 ⟨fun hne=>by
  obtain ⟨i,o,cs,h1,h2,h3⟩:=hR.at' hne
  have:=ho i o h1
  exact ⟨i,o,cs,h1,h.at' i _ (by omega) h2,h3⟩⟩
theorem _root_.Go.Abs.MapU.ok.keepK {t:Nat} (h:KeepX t P Q) (hn:t < n) {x:MapU} (ho:x.over n) (hx:x.ok P):x.ok Q:=⟨h.row ho.l hn hx.l,hx.ln,hx.lu.le h.len,h.row ho.s hn hx.s,hx.sn,hx.su.le h.len,hx.ls⟩
theorem _root_.Go.Abs.MethU.ok.keepK {t:Nat} (h:KeepX t P Q) (hn:t < n) {m:MethU} (ho:m.over n) (hx:m.ok P):m.ok Q :=
 ⟨hx.name,hx.desc,h.row ho.c hn hx.c,hx.cn,hx.cu.le h.len,hx.cok,h.row ho.t hn hx.t,hx.tn,hx.tu.le h.len,hx.tok,h.row ho.x hn hx.x,hx.xn,hx.xu.le h.len,fun x hm=>(hx.xok x hm).keepK h hn (ho.xs x hm)⟩
theorem over_mono {n m:Nat} {a:Option (Nat × Nat)} (h:over n a) (hm:m≤n):over m a:=fun i o e=>bl hm (h i o e)
theorem _root_.Go.Abs.MethU.over.monoK {n k:Nat} {m:MethU} (h:m.over n) (hk:k≤n):m.over k:=⟨over_mono h.c hk,over_mono h.t hk,over_mono h.x hk,fun x hx=>⟨over_mono (h.xs x hx).l hk,over_mono (h.xs x hx).s hk⟩⟩
def codeH (x y:Int):List InsU:=[opI 21 0,opI x 0,opI y 0,opI 172 0]
def AnyB (m:MethU):Prop:=Body m∨(m.st=true∧m.stack=4∧m.locals=1∧m.traps=[]∧m.maps=[]∧∃ x y:Int,2≤x∧x≤8∧y ∈ ([100,108,112]:List Int)∧m.code=codeH x y)
theorem AnyB.ren {m:MethU} (h:AnyB m) (f:Nat→Nat):AnyB (m.ren f):=by
 rcases h with h | ⟨h1,h2,h3,h4,h5,h6⟩
 ·exact .inl (h.ren f)
 ·exact .inr ⟨h1,h2,h3,h4,by show m.maps.map _=[]; rw [h5]; rfl,h6⟩
structure MOk (n:Nat) (P:List AObj) (st:Bool) (nm:Str) (m:MethU):Prop where
 st:m.st=st
 name:m.name=nm
 desc:m.desc=descII
 ok:m.ok P
 over:m.over n
 fits:m.fits
 traps:∀ x ∈ m.traps,x.cls ∈ classesT
 body:AnyB m
 short:m.code.length≤100000∧m.traps.length≤100000
theorem MOk.keep {t:Nat} (h:KeepX t P Q) (hn:t < n) {st:Bool} {nm:Str} {m:MethU} (hm:MOk n P st nm m):MOk n Q st nm m:=⟨hm.st,hm.name,hm.desc,hm.ok.keepK h hn hm.over,hm.over,hm.fits,hm.traps,hm.body,hm.short⟩
theorem Made.mok {st:Bool} {nm:Str} {m:MethU} (h:Made P tN tb tv st nm Q m) (hn:n≤P.length):MOk n Q st nm m:=⟨h.st,h.name,h.desc,h.ok,h.over.monoK hn,h.fits,h.traps,.inl h.body,h.short⟩
structure Good (P:List AObj) (tN:Nat) (tb:List UInt8) (tv:AVal):Prop where
 tape:∃ p,Tape P tN tb tv p
 tv:TapeV P tN tb tv
theorem Good.keep (h:Good P tN tb tv) (k:KeepX tN P Q) (ht:∃ p,Tape Q tN tb tv p):Good Q tN tb tv:=by
 refine ⟨ht,?_⟩
 obtain ⟨a,c,e,hr,hd⟩:=h.tv.row
 exact ⟨a,c,e,⟨fun hne=>by
  obtain ⟨i,o,cs,h1,h2,h3⟩:=hr.at' hne
  exact ⟨i,o,cs,h1,k.at' i _ (hd i o h1) h2,h3⟩⟩,hd⟩
theorem Good.app (h:Good P tN tb tv) (X:List AObj):Good (P++X) tN tb tv:=by
 obtain ⟨p,hp⟩:=h.tape
 exact h.keep (KeepX.app _ _ _) ⟨p,by rw [ag (ah hp.at')]; exact hp.at',hp.le,hp.small⟩
theorem Good.lt (h:Good P tN tb tv):tN < P.length:=by
 obtain ⟨p,hp⟩:=h.tape
 exact ah hp.at'
theorem Good.next (h:Good P tN tb tv) (hb:b≤tN) {x:Int} (hx:1≤x) (hx2:x≤1000):∃ (r:Nat) (Q:List AObj) (nx:Nat→Nat),(r:Int) < x∧Good Q tN tb tv∧KeepX tN P Q∧Q.length=P.length∧((∀ w,nx w=w)∨(∀ w,nx w=min w tN))∧∀ w,xCall T 102 [.ptr (some (tN,0)),.int .i64 x] ⟨P,b,w⟩=some (.int .i64 r,⟨Q,b,nx w⟩):=by
 obtain ⟨p,hp⟩:=h.tape
 obtain ⟨r,p',nx,q1,q2,q3,q4⟩:=s102 hp h.tv hb hx hx2
 have hk:=KeepX.set tN P (tapeO tv p')
 exact ⟨r,_,nx,q1,h.keep hk ⟨p',by rw [a9,if_pos rfl,if_pos h.lt],q2,hp.small⟩,hk,by simp,q3,q4⟩
theorem Good.body (h:Good P tN tb tv) (hb:b≤tN) {st:Bool} {nm:Str} (hn:nm.length≤100) {most:Int} (hm:st=true→1≤most∧most≤6) (w:Nat) :
  ∃ m Q w',xCall T 101 [.ptr (some (tN,0)),.bool st,.str nm,.int .i64 most] ⟨P,b,w⟩=some (.agg m.cells,⟨Q,b,w'⟩)∧Good Q tN tb tv∧KeepX tN P Q∧(∀ n,n≤P.length→MOk n Q st nm m)∧min w tN≤w'∧w'≤w:=by
 obtain ⟨p,hp⟩:=h.tape
 have go:∀ {m:MethU} {Q:List AObj},Made P tN tb tv st nm Q m→Good Q tN tb tv∧KeepX tN P Q∧(∀ n,n≤P.length→MOk n Q st nm m):=fun hM=>⟨h.keep hM.keepX hM.tape,hM.keepX,fun n hn=>hM.mok hn⟩
 cases st with
 | false =>
  obtain ⟨m,Q,w',h1,h2,h3,h4⟩:=s101a hp h.tv hb hn (most:=most) w
  obtain ⟨g1,g2,g3⟩:=go h2
  exact ⟨m,Q,w',h1,g1,g2,g3,h3,h4⟩
 | true =>
  obtain ⟨m,Q,w',h1,h2,h3,h4⟩:=s101b hp h.tv hb hn (hm rfl).1 (hm rfl).2 w
  obtain ⟨g1,g2,g3⟩:=go h2
  exact ⟨m,Q,w',h1,g1,g2,g3,h3,h4⟩
end Go.Abs.AbsMk

namespace Go.Abs.AbsMk
open Go.Abs.AbsFlow (formN endsC shapeF hasMap inM branchOk mapsUp rangesOk needB needE needL needs checkM shapeOk)
open Go.Abs.AbsDesc Go.Abs.AbsHier
def okL (l:Int) (x:InsU):Prop:=(0≤x.op∧x.op < 256)∧formN x.op≠0∧(formN x.op=2∨formN x.op=8→0≤x.n∧x.n≤l - 1 - (if x.op=22∨x.op=55 then 1 else 0))
instance (l:Int) (x:InsU):Decidable (okL l x):=by unfold okL; infer_instance
theorem shape_of {m:MethU} {x:InsU} (h:okL m.locals x):shapeOk m x=true:=by
 unfold shapeOk shapeF
 rw [if_neg h.2.1]
 split
 ·rename_i c
  obtain ⟨h1,h2⟩:=h.2.2 c
  unfold AbsFlow.inI
  rw [decide_eq_true h1,decide_eq_true h2]; rfl
 ·rfl
theorem need_mem (n:Nat):∀ (L:List InsU) (i:Nat) (z:Int),z ∈ needL n i L→∃ j x,L[j]? = some x∧(formN x.op=7∧z=x.n∨endsC x.op=true∧i+j+1 < n∧z=((i+j+1:Nat):Int))
 | [],_,_,h=>by simp [needL] at h
 | x :: r,i,z,h=>by
  simp only [needL,bf] at h
  rcases h with h | h | h
  ·unfold needB at h
   split at h
   ·rename_i c
    exact ⟨0,x,rfl,.inl ⟨c,bo.1 h⟩⟩
   ·cases h
  ·unfold needE at h
   split at h
   ·rename_i c
    exact ⟨0,x,rfl,.inr ⟨c.1,c.2,bo.1 h⟩⟩
   ·cases h
  ·obtain ⟨j,y,h1,h2⟩:=need_mem n r (i+1) z h
   have e:i+1+j+1=i+(j+1)+1:=by omega
   rw [e] at h2
   exact ⟨j+1,y,h1,h2⟩
theorem check_zero {m:MethU} (hd:(methL m.desc).isNone=false) (hs:AbsFlow.inI m.stack 0 64=true) (hl:AbsFlow.inI m.locals 0 64=true) (hlast:∃ x,m.code.getLast? = some x∧endsC x.op=true) (hok:∀ x ∈ m.code,okL m.locals x)
  (hbr:∀ x ∈ m.code,formN x.op=7→inM m x.n=true∧hasMap m x.n=true) (hen:∀ (i:Nat) (x:InsU),m.code[i]? = some x→endsC x.op=true→i+1 < m.code.length→hasMap m ((i+1:Nat):Int)=true)
  (htr:∀ t ∈ m.traps,AbsFlow.trapOk m t=true∧hasMap m t.at'=true) (hup:mapsUp m (-1) m.maps=true):checkM m=0:=by
 obtain ⟨x,hx,he⟩:=hlast
 have h1:m.code.all (shapeOk m)=true:=am.2 fun x hx=>shape_of (hok x hx)
 have h2:rangesOk m=true:=by
  unfold rangesOk
  rw [am.2 fun x hx=>(by unfold branchOk; by_cases c:formN x.op=7; rw [(hbr x hx c).1,Bool.or_true]; rw [decide_eq_false c]; rfl:branchOk m x=true),am.2 fun t ht=>(htr t ht).1,hup]
  rfl
 have h3:(needs m).all (hasMap m)=true:=by
  refine am.2 fun z hz=>?_
  unfold needs at hz
  rcases bf.1 hz with hz | hz
  ·obtain ⟨j,x,h4,h5⟩:=need_mem _ _ _ _ hz
   rcases h5 with ⟨h5,rfl⟩ | ⟨h5,h6,rfl⟩
   ·exact (hbr x (a8 h4) h5).2
   ·have e:0+j+1=j+1:=by omega
    rw [e] at h6 ⊢
    exact hen j x h4 h5 h6
  ·obtain ⟨t,ht,rfl⟩:=ed.1 hz
   exact (htr t ht).2
 unfold checkM
 rw [hd,hs,hl,hx,h1,h2,h3]
 simp [he]
theorem has_of {m:MethU} {z:Int} (h:∃ x ∈ m.maps,x.at'=z):hasMap m z=true:=by
 obtain ⟨x,hx,rfl⟩:=h
 unfold hasMap
 exact List.any_eq_true.2 ⟨x,hx,decide_eq_true rfl⟩
theorem in_of {m:MethU} {z:Int} (h0:0≤z) (h1:z < m.code.length):inM m z=true:=by
 unfold inM AbsFlow.inI
 rw [decide_eq_true h0,decide_eq_true (by omega)]; rfl
theorem maps_up {m:MethU}:∀ (L:List MapU) (l:Int),upM l (L.map fun x=>(x.at',x.locals,x.stack))→(∀ x ∈ L,inM m x.at'=true)→mapsUp m l L=true
 | [],_,_,_=>rfl
 | x :: r,l,h,hi=>by
  unfold mapsUp
  rw [decide_eq_true h.1,hi x (av ..),maps_up r x.at' h.2 fun y hy=>hi y (bq _ hy)]; rfl
theorem gb_check {X:WX} (h:GB X) {m:MethU} (hd:(methL m.desc).isNone=false) (hs:m.stack=40) (hl:m.locals=8) (hc:m.code=X.C) (ht:m.traps=X.S) (hx:m.maps.map (fun x=>(x.at',x.locals,x.stack))=X.M):checkM m=0∧∀ x ∈ m.code,0≤x.op∧x.op < 256:=by
 obtain ⟨x,y,z,X0,a,h1,h2,h3,hG,ha⟩:=h
 have g0:GrI [] WX.nil:=⟨fun i x e=>by simp [WX.nil] at e,fun i x e=>by simp [WX.nil] at e,fun i x e=>by simp [WX.nil] at e,trivial,fun y hy=>(by cases hy),fun t ht=>(by cases ht),fun i hi=>(by cases hi)⟩
 have g1:GrI [] (WX.nil.add (preB x y z)):=g0.add (by
  unfold preB
  exact da (p_num _) (da (A:=[opI 54 1]) (by decide) (da (p_num _) (da (A:=[opI 54 2,opI 10 0,opI 55 3,⟨187,0,0,[65],[],[],[]⟩,opI 58 5]) (by decide) (da (p_num _) (by decide))))))
 have g:=GSs.inv hG [] g1
 have hpl:=GI.plain ha
 have hC:m.code=X0.C++(a++[opI 172 0]):=hc
 have hlen:m.code.length=X0.C.length+a.length+1:=by rw [hC]; simp; omega
 have hat:∀ z,X0.at' z→hasMap m z=true∧inM m z=true:=fun z hz=>by
  have h0:=at_nonneg g.up hz
  obtain ⟨y,hy,rfl⟩:=hz
  have hle:=g.le y hy
  have hy':y ∈ m.maps.map (fun x=>(x.at',x.locals,x.stack)):=by rw [hx]; exact hy
  obtain ⟨u,hu,rfl⟩:=ed.1 hy'
  exact ⟨has_of ⟨u,hu,rfl⟩,in_of h0 (by rw [hlen]; omega)⟩
 have hmem:∀ (i:Nat) (x:InsU),m.code[i]? = some x→X0.C[i]? = some x∨(okI x∧quietI x)∨(i=X0.C.length+a.length∧x=opI 172 0):=fun i x e=>by
  rw [hC,List.getElem?_append] at e
  split at e
  ·exact .inl e
  ·rw [List.getElem?_append] at e
   split at e
   ·exact .inr (.inl (hpl x (a8 e)))
   ·obtain ⟨h3,h4⟩:=List.getElem?_eq_some_iff.1 e
    simp only [ce] at h3
    have h5:i - X0.C.length - a.length=0:=by omega
    refine .inr (.inr ⟨by omega,?_⟩)
    simp only [h5,List.getElem_cons_zero] at h4
    exact h4.symm
 have hok:∀ x ∈ m.code,okI x:=fun x hx=>by
  obtain ⟨i,hi⟩:=d8 hx
  rcases hmem i x hi with e | e | ⟨_,rfl⟩
  ·exact g.ok i x e
  ·exact e.1
  ·decide
 refine ⟨check_zero hd (by rw [hs]; rfl) (by rw [hl]; rfl) ⟨opI 172 0,by rw [hC]; simp,rfl⟩ (fun x hx=>?_) (fun x hx a=>?_) (fun i x e a c=>?_) (fun t htt=>?_) ?_,fun x hx=>(hok x hx).1⟩
 ·have:=hok x hx
  rw [hl]
  exact this
 ·obtain ⟨i,hi⟩:=d8 hx
  rcases hmem i x hi with e | e | ⟨_,rfl⟩
  ·have k:=hat _ (g.br i x e a (by simp))
   exact ⟨k.2,k.1⟩
  ·exact absurd a e.2.1
  ·exact absurd a (by decide)
 ·rcases hmem i x e with e | e | ⟨rfl,rfl⟩
  ·exact (hat _ (g.en i x e a)).1
  ·rw [e.2.2] at a; cases a
  ·omega
 ·rw [ht] at htt
  obtain ⟨k1,k2,k3,k4⟩:=g.tr t htt
  obtain ⟨k5,k6⟩:=hat _ k4
  refine ⟨?_,k5⟩
  unfold AbsFlow.trapOk
  rw [decide_eq_true k1,decide_eq_true k2,decide_eq_true (by omega:t.hi≤m.code.length),k6]; rfl
 ·refine maps_up _ _ (by rw [hx]; exact g.up) fun u hu=>?_
  refine (hat _ ⟨(u.at',u.locals,u.stack),?_,rfl⟩).2
  have:=ii (f:=fun x:MapU=>(x.at',x.locals,x.stack)) hu
  rw [hx] at this; exact this
theorem flat_check {m:MethU} {L:List InsU} {z:InsU} (hd:(methL m.desc).isNone=false) (hs:AbsFlow.inI m.stack 0 64=true) (hl:AbsFlow.inI m.locals 0 64=true) (hc:m.code=L++[z]) (hz:endsC z.op=true∧formN z.op≠7∧okL m.locals z) (hL:∀ x ∈ L,okL m.locals x∧quietI x) (ht:m.traps=[]) (hx:m.maps=[]):checkM m=0∧∀ x ∈ m.code,0≤x.op∧x.op < 256:=by
 have hok:∀ x ∈ m.code,okL m.locals x:=fun x hx=>by
  rw [hc] at hx
  rcases bf.1 hx with hx | hx
  ·exact (hL x hx).1
  ·rw [bo.1 hx]; exact hz.2.2
 refine ⟨check_zero hd hs hl ⟨z,by rw [hc]; simp,hz.1⟩ hok (fun x hx a=>?_) (fun i x e a c=>?_) (fun t htt=>by rw [ht] at htt; cases htt) (by rw [hx]; rfl),fun x hx=>(hok x hx).1⟩
 ·rw [hc] at hx
  rcases bf.1 hx with hx | hx
  ·exact absurd a (hL x hx).2.1
  ·rw [bo.1 hx] at a; exact absurd a hz.2.1
 ·rw [hc,bc,ce] at c
  rw [hc,ag (by omega)] at e
  rw [(hL x (a8 e)).2.2] at a; cases a
theorem desc_ok:(methL descII).isNone=false:=by decide
theorem made_check {m:MethU} (h:AnyB m) (hd:m.desc=descII):checkM m=0∧∀ x ∈ m.code,0≤x.op∧x.op < 256:=by
 have hd':(methL m.desc).isNone=false:=by rw [hd]; exact desc_ok
 rcases h with (⟨_,h1,h2,X,h3,h4,h5,h6⟩ | ⟨_,h1,h2,h3,h4,y,hy,h5⟩) | ⟨_,h1,h2,h3,h4,x,y,hx1,hx2,hy,h5⟩
 ·exact gb_check h3 hd' h1 h2 h4 h5 h6
 ·refine flat_check (L:=[opI 21 1,numI 3,opI 96 0,opI 25 0,nameI 180 [65] [102] [73],opI y 0]) (z:=opI 172 0) hd' (by rw [h1]; rfl) (by rw [h2]; rfl) (by rw [h5]; rfl) ⟨rfl,by decide,by rw [h2]; decide⟩ ?_ h3 h4
  rw [h2]
  have:∀ y ∈ acts101,∀ x ∈ [opI 21 1,numI 3,opI 96 0,opI 25 0,nameI 180 [65] [102] [73],opI y 0],okL 2 x∧quietI x:=by decide
  exact this y hy
 ·refine flat_check (L:=[opI 21 0,opI x 0,opI y 0]) (z:=opI 172 0) hd' (by rw [h1]; rfl) (by rw [h2]; rfl) (by rw [h5]; rfl) ⟨rfl,by decide,by rw [h2]; decide⟩ ?_ h3 h4
  rw [h2]
  have:∀ y ∈ ([100,108,112]:List Int),∀ k:Fin 7,∀ x ∈ [opI 21 0,opI ((k.1:Int)+2) 0,opI y 0],okL 1 x∧quietI x:=by decide
  have e:x=(((⟨(x - 2).toNat,by omega⟩:Fin 7).1:Nat):Int)+2:=by show x=((x - 2).toNat:Int)+2; omega
  rw [e]
  exact this y hy _
end Go.Abs.AbsMk

namespace Go.Abs.AbsMk
open Go.Abs.AbsMake
open Go.Abs.AbsDesc hiding T
open Go.Abs.AbsHier hiding T sub
variable {os O P Q B:List AObj} {b w:Nat} {tN:Nat} {tb:List UInt8} {tv:AVal} {n:Nat}
def mainT:Str:=[77,97,105,110]
def fieldsM:List FieldU:=[⟨true,[115],[73]⟩,⟨true,[111],[76,65,59]⟩]
def fieldsA:List FieldU:=[⟨false,[102],[73]⟩,⟨false,[108],[74]⟩,⟨false,[110,101,120,116],[76,65,59]⟩]
def fieldsB:List FieldU:=[⟨false,[103],[73]⟩]
def insO (x:Int):InsU:=⟨x,0,0,[],[],[],[]⟩
def helpM (q:Nat) (x y:Int):MethU:=⟨true,[104,101,108,112],descII,4,1,[insO 21,insO x,insO y,insO 172],some (q,0),some 4,[],none,some 0,[],none,some 0⟩
def actsH:List Int:=[100,108,112]
def uMain (f m:Nat) (m1 m2:MethU):UnitU:=⟨mainT,objectT,fieldsM,some (f,0),some 2,[m1,m2],some (m,0),some 2⟩
def uA (f m:Nat) (m1:MethU):UnitU:=⟨[65],objectT,fieldsA,some (f,0),some 3,[m1],some (m,0),some 1⟩
def uB (f:Nat) (ms:List MethU) (a:Option (Nat × Nat)) (c:Option Nat):UnitU:=⟨[66],[65],fieldsB,some (f,0),some 1,ms,a,c⟩
def uOops:UnitU:=⟨[79,111,112,115],[84,104,114,111,119,97,98,108,101],[],none,some 0,[],none,some 0⟩
theorem helpM_mok {q:Nat} {x y:Int} (hx:2≤x∧x≤8) (hy:y ∈ actsH) (hq:n≤q) (h:P[q]? = some (.cells 7 ([insO 21,insO x,insO y,insO 172].flatMap InsU.cells))):MOk n P true [104,101,108,112] (helpM q x y):=by
 have hlt:=ah h
 have h0:(0:Nat)≤reachB:=bz _
 have hs:∀ z ∈ [insO 21,insO x,insO y,insO 172],z.cls=[]∧z.name=[]∧z.desc=[]∧z.text=[]:=by simp [insO]
 refine ⟨rfl,rfl,rfl,⟨by show (4:Nat)≤9223372036854775807; decide,(show descII.length≤big by decide),Row.mk0 (fun _=>rfl) h,by show (4:Nat)≤9223372036854775807; decide,fun i o e=>?_,fun z hz=>?_,⟨fun h=>absurd rfl h⟩,bz _,fun i o e=>(by cases e),fun z hz=>(by cases hz),⟨fun h=>absurd rfl h⟩,bz _,fun i o e=>(by cases e),fun z hz=>(by cases hz)⟩,
  ⟨fun i o e=>?_,fun i o e=>(by cases e),fun i o e=>(by cases e),fun z hz=>(by cases hz)⟩,⟨by show (4:Nat)≤140737488351232; decide,by show (4:Nat)≤140737488351232; decide,by show (4:Nat)≤140737488351232; decide,fun z hz=>?_,h0,fun z hz=>(by cases hz),h0,fun z hz=>(by cases hz)⟩,fun z hz=>(by cases hz),.inr ⟨rfl,rfl,rfl,rfl,rfl,x,y,hx.1,hx.2,hy,rfl⟩,by show (4:Nat)≤100000; decide,by show (0:Nat)≤100000; decide⟩
 ·simp only [helpM,ap,bt] at e; omega
 ·obtain ⟨h1,h2,h3,h4⟩:=hs z hz
  rw [h1,h2,h3,h4]; exact ⟨bz _,bz _,bz _,bz _⟩
 ·simp only [helpM,ap,bt] at e; omega
 ·obtain ⟨h1,h2,h3,h4⟩:=hs z hz
  unfold InsU.fits
  rw [h1,h2,h3,h4]; exact ⟨bz _,bz _,bz _,bz _⟩
def sk (m:MethU):Bool × Str × Str:=(m.st,m.name,m.desc)
structure Skel (L:List UnitU):Prop where
 traps:∀ u ∈ L,∀ m ∈ u.meths,∀ t ∈ m.traps,t.cls ∈ classesT
 bodies:∀ u ∈ L,∀ m ∈ u.meths,AnyB m∧m.code.length≤100000∧m.traps.length≤100000
 ex:∃ u1 u2 u3 u4,L=[u1,u2,u3,u4] ∧
  (u1.name=mainT∧u1.super=objectT∧u1.fields=fieldsM∧u1.meths.map sk=[(true,[109,97,105,110],descII),(true,[104,101,108,112],descII)]) ∧
  (u2.name=[65]∧u2.super=objectT∧u2.fields=fieldsA∧u2.meths.map sk=[(false,[118],descII)]) ∧
  (u3.name=[66]∧u3.super=[65]∧u3.fields=fieldsB∧(u3.meths.map sk=[]∨u3.meths.map sk=[(false,[118],descII)])) ∧
  (u4.name=[79,111,112,115]∧u4.super=[84,104,114,111,119,97,98,108,101]∧u4.fields=[]∧u4.meths.map sk=[])
end Go.Abs.AbsMk

namespace Go.Abs.AbsMk
open Go.Abs.AbsMake
open Go.Abs.AbsDesc hiding T
open Go.Abs.AbsHier hiding T sub
variable {os O P Q B:List AObj} {b w:Nat} {tN:Nat} {tb:List UInt8} {tv:AVal} {n:Nat}
def unitsEnd (O:List AObj) (b w:Nat) (Q:List AObj) (W:Nat) (L:List UnitU):Option (AVal × Heap):=some (finish ⟨O,b,w⟩ (.slice (some (Q.length,0)) 4 (some 4)) ⟨Q++[.cells 4 (L.flatMap UnitU.cells)],b,W⟩)
section
attribute [-simp] getElem?_pos getElem?_neg List.all_eq_true sget
attribute [local simp] gz gs nltT nltF iltT iltF ileT nleT cf dy dz d7
theorem t48_0 (hb:b≤P.length) {u1 u2 u3:UnitU} (w:Nat) (c:AExit→St→Option (AVal × Heap)) :
  xK T code48T0 ⟨[(3,.var u1.cells),(4,.var u2.cells),(5,.var u3.cells)],⟨P,b,w⟩⟩ (k:=⟨c⟩)=c .ret ⟨[(2,.val (.slice (some (P.length,0)) 4 (some 4)))],⟨P++[.cells 4 ([u1,u2,u3,uOops].flatMap UnitU.cells)],b,w⟩⟩:=by
 simp (disch:=omega) [code48T0,UnitU.cells,uOops]
theorem t48_1 (h:Good P tN tb tv) (hb:b≤tN) {u1 u2:UnitU} {f:Nat} (w:Nat) :
  ∃ Q W ms a c,Good Q tN tb tv∧KeepX tN P Q∧min w tN≤W∧W≤w∧(ms=[]∧a=none∧c=some 0∨∃ m q,ms=[m]∧a=some (q,0)∧c=some 1∧P.length≤q∧Q[q]? = some (.cells 8 m.cells)∧∀ n,tN < n→n≤P.length→MOk n Q false [118] m) ∧
   ∀ (k:AExit→St→Option (AVal × Heap)),xK T code48T1 ⟨[(0,.val (.ptr (some (tN,0)))),(3,.var u1.cells),(4,.var u2.cells),(5,.var (uB f [] none (some 0)).cells)],⟨P,b,w⟩⟩ (k:=⟨k⟩) =
    k .ret ⟨[(2,.val (.slice (some (Q.length,0)) 4 (some 4)))],⟨Q++[.cells 4 ([u1,u2,uB f ms a c,uOops].flatMap UnitU.cells)],b,W⟩⟩:=by
 obtain ⟨r,P1,nx,h1,g1,k1,l1,hnx,e1⟩:=h.next hb (x:=3) (by decide) (by decide)
 have hlt:=h.lt
 have hnx2:min w tN≤nx w∧nx w≤w:=by rcases hnx with g | g <;> rw [g] <;> omega
 by_cases hr:r=0
 ·subst hr
  have e2:=fun c=>t48_0 (P:=P1) (b:=b) (by omega) (u1:=u1) (u2:=u2) (u3:=uB f [] none (some 0)) (nx w) c
  refine ⟨P1,nx w,[],none,some 0,g1,k1,hnx2.1,hnx2.2,.inl ⟨rfl,rfl,rfl⟩,fun k=>?_⟩
  generalize u1.cells=z1 at *
  generalize u2.cells=z2 at *
  simp (disch:=omega) [code48T1,e1,e2]
 ·obtain ⟨m,P2,w2,e2,g2,k2,hm,hw1,hw2⟩:=g1.body (st:=false) hb (nm:=[118]) (by decide) (most:=0) (fun h=>by cases h) (nx w)
  have hlt2:=g2.lt
  have hk3:=KeepX.app tN P2 [.cells 8 m.cells]
  have e3:=fun c=>t48_0 (P:=P2++[.cells 8 m.cells]) (b:=b) (by simp; omega) (u1:=u1) (u2:=u2) (u3:=uB f [m] (some (P2.length,0)) (some 1)) w2 c
  refine ⟨P2++[.cells 8 m.cells],w2,[m],some (P2.length,0),some 1,g2.app _,(k1.trans k2).trans hk3,by omega,by omega,.inr ⟨m,P2.length,rfl,rfl,rfl,(k1.trans k2).len,by rw [dh]; rfl,fun n hn0 hn=>((hm n (by omega)).keep hk3 hn0)⟩,fun k=>?_⟩
  ·have hr2:(0:Int) < r:=by omega
   have hml:m.cells.length=8:=rfl
   have htk:List.take 8 m.cells=m.cells:=rfl
   generalize ([u1,u2,uB f [m] (some (P2.length,0)) (some 1),uOops].flatMap UnitU.cells)=R at e3 ⊢
   have hc3:(uB f [m] (some (P2.length,0)) (some 1)).cells=[.str [66],.str [65],.slice (some (f,0)) 1 (some 1),.slice (some (P2.length,0)) 1 (some 1)]:=rfl
   have hc4:(uB f [] none (some 0)).cells=[.str [66],.str [65],.slice (some (f,0)) 1 (some 1),.slice none 0 (some 0)]:=rfl
   rw [hc3] at e3
   rw [hc4]
   generalize u1.cells=z1 at *
   generalize u2.cells=z2 at *
   generalize m.cells=z at *
   simp (disch:=omega) [code48T1,e1,hr2,e2,hml,htk,e3]
end
end Go.Abs.AbsMk

namespace Go.Abs.AbsMk
open Go.Abs.AbsMake
open Go.Abs.AbsDesc hiding T
open Go.Abs.AbsHier hiding T sub
variable {os O P Q B:List AObj} {b w:Nat} {tN:Nat} {tb:List UInt8} {tv:AVal} {n:Nat}
def RowIs {α:Type} (Q:List AObj) (n e:Nat) (f:α→List AVal) (L:List α) (a:Option (Nat × Nat)):Prop:=L=[]∧a=none∨∃ q,a=some (q,0)∧n≤q∧Q[q]? = some (.cells e (L.flatMap f))
theorem RowIs.row {α:Type} {e:Nat} {f:α→List AVal} {L:List α} {a:Option (Nat × Nat)} (hf:∀ x,(f x).length=e) (h:RowIs Q n e f L a):Row Q e f L a∧under Q.length a∧over n a:=by
 rcases h with ⟨rfl,rfl⟩ | ⟨q,rfl,h1,h2⟩
 ·exact ⟨⟨fun h=>absurd rfl h⟩,fun i o e=>(by cases e),fun i o e=>(by cases e)⟩
 ·refine ⟨Row.mk0 hf h2,fun i o e=>?_,fun i o e=>?_⟩
  ·simp only [ap,bt] at e; have:=ah h2; omega
  ·simp only [ap,bt] at e; omega
theorem unit_is {u:UnitU} (hn:u.name.length≤100) (hs:u.super.length≤100) (hf:RowIs Q n 3 FieldU.cells u.fields u.fa) (hfl:u.fields.length≤100) (hfs:∀ x ∈ u.fields,x.name.length≤100∧x.desc.length≤100)
  (hm:RowIs Q n 8 MethU.cells u.meths u.ma) (hml:u.meths.length≤100) (hms:∀ x ∈ u.meths,∃ st nm,MOk n Q st nm x) (hcf:∀ k,u.fc=some k→u.fields.length≤k) (hcm:∀ k,u.mc=some k→u.meths.length≤k):u.ok Q∧u.fits∧u.over n:=by
 obtain ⟨f1,f2,f3⟩:=RowIs.row (f:=FieldU.cells) (fun _=>rfl) hf
 obtain ⟨m1,m2,m3⟩:=RowIs.row (f:=MethU.cells) (fun _=>rfl) hm
 have r:∀ {x:Nat},x≤100→x≤reachB:=fun h=>short_reach (by omega)
 exact ⟨⟨short_big hn,short_big hs,f1,short_big hfl,f2,fun x hx=>⟨short_big (hfs x hx).1,short_big (hfs x hx).2⟩,m1,short_big hml,m2,fun x hx=>by obtain ⟨_,_,h⟩:=hms x hx; exact h.ok⟩,
  ⟨r hn,r hs,r hfl,fun x hx=>⟨r (hfs x hx).1,r (hfs x hx).2⟩,r hml,fun x hx=>(by obtain ⟨_,_,h⟩:=hms x hx; exact h.fits),⟨hcf,hcm⟩⟩,
  ⟨f3,m3,fun x hx=>by obtain ⟨_,_,h⟩:=hms x hx; exact h.over⟩⟩
theorem one100 {x:UInt8}:([x]:Str).length≤100:=by show 1≤100; decide
theorem nm100:mainT.length≤100∧objectT.length≤100:=by decide
theorem fs100:(fieldsM.length≤100∧∀ x ∈ fieldsM,x.name.length≤100∧x.desc.length≤100)∧(fieldsA.length≤100∧∀ x ∈ fieldsA,x.name.length≤100∧x.desc.length≤100)∧(fieldsB.length≤100∧∀ x ∈ fieldsB,x.name.length≤100∧x.desc.length≤100):=by
 refine ⟨⟨by decide,fun x hx=>?_⟩,⟨by decide,fun x hx=>?_⟩,by decide,fun x hx=>?_⟩
 ·simp only [fieldsM,ba,b8,or_false] at hx
  rcases hx with rfl | rfl <;> exact ⟨by show (_:Nat)≤100; decide,by show (_:Nat)≤100; decide⟩
 ·simp only [fieldsA,ba,b8,or_false] at hx
  rcases hx with rfl | rfl | rfl <;> exact ⟨by show (_:Nat)≤100; decide,by show (_:Nat)≤100; decide⟩
 ·simp only [fieldsB,ba,b8,or_false] at hx
  subst hx; exact ⟨by show (_:Nat)≤100; decide,by show (_:Nat)≤100; decide⟩
theorem s48_run (h:Good O tN tb tv) (hb:b≤tN):∃ (Q:List AObj) (W:Nat) (L:List UnitU),Good Q tN tb tv∧KeepX tN O Q∧tN≤W∧L.length=4∧Skel L∧(∀ u ∈ L,u.ok Q∧u.fits∧u.over O.length)∧∀ w,xCall T 48 [.ptr (some (tN,0))] ⟨O,b,w⟩=unitsEnd O b w Q W L:=by
 have hlt:=h.lt
 have g1:=h.app [.cells 3 (fieldsM.flatMap FieldU.cells)]
 have k1:=KeepX.app tN O [.cells 3 (fieldsM.flatMap FieldU.cells)]
 obtain ⟨m1,P2,w2,e2,g2,k2,hm1,hw2,hw2'⟩:=g1.body (st:=true) hb (nm:=[109,97,105,110]) (by decide) (most:=6) (fun _=>⟨by decide,by decide⟩) O.length
 obtain ⟨r1,P3,nx1,h3,g3,k3,l3,hnx3,e3⟩:=g2.next hb (x:=7) (by decide) (by decide)
 have g3b:=g3.app [.cells 1 (actsH.map (AVal.int .u8))]
 have k3b:=KeepX.app tN P3 [.cells 1 (actsH.map (AVal.int .u8))]
 obtain ⟨r2,P4,nx2,h4,g4,k4,l4,hnx4,e4⟩:=g3b.next hb (x:=3) (by decide) (by decide)
 obtain ⟨y,hy,hym⟩:=bytes_get actsH (r:=r2) (by simp only [actsH,bp,a7]; omega)
 have hP3:=g3.lt
 have hP4:=g4.lt
 have hy4:P4[P3.length]? = some (.cells 1 (actsH.map (AVal.int .u8))):=k4.at' _ _ (by omega) (by rw [dh]; rfl)
 obtain ⟨x,hx⟩:∃ x:Int,x=IntKind.u8.wrap (2+(r1:Int)):=⟨_,rfl⟩
 have hxr:2≤x∧x≤8:=by rw [hx,show IntKind.u8.wrap (2+(r1:Int))=(2+(r1:Int)) % 256 from rfl]; omega
 obtain ⟨X5,hX5⟩:∃ X,X=[AObj.cells 7 ([insO 21,insO x,insO y,insO 172].flatMap InsU.cells),AObj.cells 8 ([m1,helpM P4.length x y].flatMap MethU.cells)]:=⟨_,rfl⟩
 have g5:=g4.app X5
 have k5:=KeepX.app tN P4 X5
 have g6:=g5.app [.cells 3 (fieldsA.flatMap FieldU.cells)]
 have k6:=KeepX.app tN (P4++X5) [.cells 3 (fieldsA.flatMap FieldU.cells)]
 obtain ⟨m2,P7,w3,e7,g7,k7,hm2,hw3,hw3'⟩:=g6.body (st:=false) hb (nm:=[118]) (by decide) (most:=0) (fun h=>by cases h) (nx2 (nx1 w2))
 have g8:=g7.app [.cells 8 m2.cells]
 have k8:=KeepX.app tN P7 [.cells 8 m2.cells]
 have g9:=g8.app [.cells 3 (fieldsB.flatMap FieldU.cells)]
 have k9:=KeepX.app tN (P7++[.cells 8 m2.cells]) [.cells 3 (fieldsB.flatMap FieldU.cells)]
 obtain ⟨Q,W,ms,a,c,gQ,kQ,hW1,hW2,hms,e9⟩:=t48_1 g9 hb (u1:=uMain O.length (P4.length+1) m1 (helpM P4.length x y)) (u2:=uA (P4.length+2) P7.length m2) (f:=P7.length+1) w3
 have hP7:=g7.lt
 have hlen5:(P4++X5).length=P4.length+2:=by rw [hX5]; simp
 have n1:tN≤nx1 w2:=by rcases hnx3 with g | g <;> rw [g] <;> omega
 have n2:tN≤nx2 (nx1 w2):=by rcases hnx4 with g | g <;> rw [g] <;> omega
 refine ⟨Q,W,[uMain O.length (P4.length+1) m1 (helpM P4.length x y),uA (P4.length+2) P7.length m2,uB (P7.length+1) ms a c,uOops],gQ,((((((((k1.trans k2).trans k3).trans k3b).trans k4).trans k5).trans k6).trans k7).trans (k8.trans k9)).trans kQ,by omega,rfl,?_,?_,fun w=>?_⟩
 ·have a1:=hm1 0 (bz _)
  have a2:=hm2 0 (bz _)
  have b1:sk m1=(true,[109,97,105,110],descII):=by unfold sk; rw [a1.st,a1.name,a1.desc]
  have b2:sk m2=(false,[118],descII):=by unfold sk; rw [a2.st,a2.name,a2.desc]
  refine ⟨fun u hu m hm t ht=>?_,fun u hu m hm=>?_,_,_,_,_,rfl,⟨rfl,rfl,rfl,?_⟩,⟨rfl,rfl,rfl,?_⟩,⟨rfl,rfl,rfl,?_⟩,rfl,rfl,rfl,rfl⟩
  ·simp only [ba,b8,or_false] at hu
   rcases hu with rfl | rfl | rfl | rfl
   ·simp only [uMain,ba,b8,or_false] at hm
    rcases hm with rfl | rfl
    ·exact a1.traps t ht
    ·cases ht
   ·simp only [uA,ba,b8,or_false] at hm
    subst hm; exact a2.traps t ht
   ·rcases hms with ⟨rfl,_,_⟩ | ⟨m',q,rfl,_,_,_,_,h5⟩
    ·cases hm
    ·simp only [uB,ba,b8,or_false] at hm
     subst hm
     exact (h5 (tN+1) (by omega) (by simp only [bc]; omega)).traps t ht
   ·cases hm
  ·simp only [ba,b8,or_false] at hu
   rcases hu with rfl | rfl | rfl | rfl
   ·simp only [uMain,ba,b8,or_false] at hm
    rcases hm with rfl | rfl
    ·exact ⟨a1.body,a1.short⟩
    ·exact ⟨.inr ⟨rfl,rfl,rfl,rfl,rfl,x,y,hxr.1,hxr.2,hym,rfl⟩,by show (4:Nat)≤100000; decide,by show (0:Nat)≤100000; decide⟩
   ·simp only [uA,ba,b8,or_false] at hm
    subst hm; exact ⟨a2.body,a2.short⟩
   ·rcases hms with ⟨rfl,_,_⟩ | ⟨m',q,rfl,_,_,_,_,h5⟩
    ·cases hm
    ·simp only [uB,ba,b8,or_false] at hm
     subst hm
     have a3:=h5 (tN+1) (by omega) (by simp only [bc]; omega)
     exact ⟨a3.body,a3.short⟩
   ·cases hm
  ·show [sk m1,sk (helpM P4.length x y)]=_
   rw [b1]; rfl
  ·show [sk m2]=_
   rw [b2]
  ·rcases hms with ⟨rfl,_,_⟩ | ⟨m,q,rfl,_,_,_,_,h5⟩
   ·exact .inl rfl
   ·right
    have a3:=h5 (tN+1) (by omega) (by simp only [bc]; omega)
    show [sk m]=_
    unfold sk; rw [a3.st,a3.name,a3.desc]
 ·have kB:=((((((k3.trans k3b).trans k4).trans k5).trans k6).trans k7).trans (k8.trans k9)).trans kQ
  have kC:=((k6.trans k7).trans (k8.trans k9)).trans kQ
  have kD:=(k7.trans (k8.trans k9)).trans kQ
  have kE:=(k8.trans k9).trans kQ
  have kF:=k9.trans kQ
  have hO1:O.length+1≤P2.length:=by have:=k2.len; simpa using this
  have hO3:O.length+1≤P4.length:=by have:=k3.len; have:=k3b.len; have:=k4.len; omega
  have hO7:O.length+1≤P7.length:=by have:=k7.len; simp only [bc,hlen5] at this; have:=hlen5; simp only [bc] at this; omega
  have q1:Q[O.length]? = some (.cells 3 (fieldsM.flatMap FieldU.cells)):=(k2.trans kB).at' _ _ (by omega) (by rw [dh]; rfl)
  have q2:Q[P4.length]? = some (.cells 7 ([insO 21,insO x,insO y,insO 172].flatMap InsU.cells)):=kC.at' _ _ (by omega) (by rw [dh,hX5]; rfl)
  have q3:Q[P4.length+1]? = some (.cells 8 ([m1,helpM P4.length x y].flatMap MethU.cells)):=kC.at' _ _ (by omega) (by rw [f0,hX5]; rfl)
  have q4:Q[P4.length+2]? = some (.cells 3 (fieldsA.flatMap FieldU.cells)):=kD.at' _ _ (by omega) (by rw [← hlen5,dh]; rfl)
  have q5:Q[P7.length]? = some (.cells 8 ([m2].flatMap MethU.cells)):=kF.at' _ _ (by omega) (by rw [dh]; simp)
  have q6:Q[P7.length+1]? = some (.cells 3 (fieldsB.flatMap FieldU.cells)):=kQ.at' _ _ (by omega) (by rw [bh,f0]; rfl)
  have a1:=(hm1 O.length (by simp)).keep kB hlt
  have a2:=(hm2 O.length (by rw [bc,hlen5]; omega)).keep kE hlt
  have a3:=helpM_mok hxr hym (n:=O.length) (by omega) q2
  intro u hu
  simp only [ba,b8,or_false] at hu
  rcases hu with rfl | rfl | rfl | rfl
  ·refine unit_is nm100.1 nm100.2 (.inr ⟨_,rfl,aj _,q1⟩) fs100.1.1 fs100.1.2 (.inr ⟨_,rfl,by omega,q3⟩) (by show 2≤100; decide) (fun z hz=>?_) (fun k hk=>by cases hk; exact aj _) (fun k hk=>by cases hk; exact aj _)
   simp only [uMain,ba,b8,or_false] at hz
   rcases hz with rfl | rfl
   ·exact ⟨_,_,a1⟩
   ·exact ⟨_,_,a3⟩
  ·refine unit_is one100 nm100.2 (.inr ⟨_,rfl,by omega,q4⟩) fs100.2.1.1 fs100.2.1.2 (.inr ⟨_,rfl,by omega,q5⟩) (by show 1≤100; decide) (fun z hz=>?_) (fun k hk=>by cases hk; exact aj _) (fun k hk=>by cases hk; exact aj _)
   simp only [uA,ba,b8,or_false] at hz
   subst hz
   exact ⟨_,_,a2⟩
  ·rcases hms with ⟨rfl,rfl,rfl⟩ | ⟨m,q,rfl,rfl,rfl,h3,h4,h5⟩
   ·exact unit_is one100 one100 (.inr ⟨_,rfl,by omega,q6⟩) fs100.2.2.1 fs100.2.2.2 (.inl ⟨rfl,rfl⟩) (by show 0≤100; decide) (fun z hz=>by cases hz) (fun k hk=>by cases hk; exact aj _) (fun k hk=>by cases hk; exact aj _)
   ·have h3':O.length+1≤q:=by simp only [bc] at h3; omega
    refine unit_is one100 one100 (.inr ⟨_,rfl,by omega,q6⟩) fs100.2.2.1 fs100.2.2.2 (.inr ⟨_,rfl,by omega,by rw [h4]; simp [uB]⟩) (by show 1≤100; decide) (fun z hz=>?_) (fun k hk=>by cases hk; exact aj _) (fun k hk=>by cases hk; exact aj _)
    simp only [uB,ba,b8,or_false] at hz
    subst hz
    exact ⟨_,_,h5 O.length hlt (by simp only [bc]; omega)⟩
  ·exact unit_is (by decide) (by decide) (.inl ⟨rfl,rfl⟩) (by decide) (by decide) (.inl ⟨rfl,rfl⟩) (by decide) (fun z hz=>by cases hz) (fun k hk=>by cases hk; exact aj _) (fun k hk=>by cases hk; exact aj _)
 ·unfold unitsEnd
  subst hX5
  simp only [actsH,cr,gg] at e4 hy hy4
  have hml:m1.cells.length=8:=rfl
  have htk:List.take 8 m1.cells=m1.cells:=rfl
  have hml2:m2.cells.length=8:=rfl
  have htk2:List.take 8 m2.cells=m2.cells:=rfl
  have hc1:(uMain O.length (P4.length+1) m1 (helpM P4.length x y)).cells=[.str mainT,.str objectT,.slice (some (O.length,0)) 2 (some 2),.slice (some (P4.length+1,0)) 2 (some 2)]:=rfl
  have hc2:(uA (P4.length+2) P7.length m2).cells=[.str [65],.str objectT,.slice (some (P4.length+2,0)) 3 (some 3),.slice (some (P7.length,0)) 1 (some 1)]:=rfl
  have hc3:(uB (P7.length+1) [] none (some 0)).cells=[.str [66],.str [65],.slice (some (P7.length+1,0)) 1 (some 1),.slice none 0 (some 0)]:=rfl
  rw [hc1,hc2,hc3] at e9
  generalize ([uMain O.length (P4.length+1) m1 (helpM P4.length x y),uA (P4.length+2) P7.length m2,uB (P7.length+1) ms a c,uOops].flatMap UnitU.cells)=R at e9 ⊢
  simp only [fieldsM,fieldsA,fieldsB,cg,List.flatMap_nil,FieldU.cells,b9,b0,ig,bh,bp,a7,dc,Nat.reduceAdd,insO,InsU.cells,MethU.cells,helpM,mainT,objectT,descII] at e2 e4 e7 e9 ⊢
  simp (disch:=omega) [-getElem?_pos,-getElem?_neg,-List.all_eq_true,gz,gs,nltT,nltF,iltT,iltF,ileT,nleT,cf,-sget,dy,dz,d7,-finish,az t48,code48,code48T4,code48T3,code48T2,e2,e3,e4,hy,hy4,e7,e9,hml,htk,hml2,htk2,← hx]
end Go.Abs.AbsMk

namespace Go.Abs.AbsMk
open Go.Abs.AbsMake
open Go.Abs.AbsDesc hiding T
open Go.Abs.AbsHier hiding T sub
variable {os O P Q B:List AObj} {b w:Nat} {tN:Nat} {tb:List UInt8} {tv:AVal} {n:Nat}
theorem sk_ren (f:Nat→Nat):∀ L:List MethU,(L.map (MethU.ren f)).map sk=L.map sk
 | []=>rfl
 | m :: L=>by simp only [cr,sk_ren f L]; rfl
theorem Skel.ren {L:List UnitU} (h:Skel L) (f:Nat→Nat):Skel (L.map (UnitU.ren f)):=by
 obtain ⟨u1,u2,u3,u4,rfl,h1,h2,h3,h4⟩:=h.ex
 have e:∀ u:UnitU,(u.ren f).meths.map sk=u.meths.map sk:=fun u=>sk_ren f u.meths
 have ht:∀ u ∈ [u1,u2,u3,u4].map (UnitU.ren f),∀ m ∈ u.meths,∀ t ∈ m.traps,t.cls ∈ classesT:=fun u hu m hm t htt=>by
  obtain ⟨v,hv,rfl⟩:=ed.1 hu
  obtain ⟨m',hm',rfl⟩:=ed.1 hm
  exact h.traps v hv m' hm' t htt
 have hbd:∀ u ∈ [u1,u2,u3,u4].map (UnitU.ren f),∀ m ∈ u.meths,AnyB m∧m.code.length≤100000∧m.traps.length≤100000:=fun u hu m hm=>by
  obtain ⟨v,hv,rfl⟩:=ed.1 hu
  obtain ⟨m',hm',rfl⟩:=ed.1 hm
  exact ⟨(h.bodies v hv m' hm').1.ren f,(h.bodies v hv m' hm').2⟩
 refine ⟨ht,hbd,?_⟩
 exact ⟨_,_,_,_,rfl,⟨h1.1,h1.2.1,h1.2.2.1,by rw [e]; exact h1.2.2.2⟩,⟨h2.1,h2.2.1,h2.2.2.1,by rw [e]; exact h2.2.2.2⟩,⟨h3.1,h3.2.1,h3.2.2.1,by rw [e]; exact h3.2.2.2⟩,h4.1,h4.2.1,h4.2.2.1,by rw [e]; exact h4.2.2.2⟩
theorem s48o (h:Good O tN tb tv) (hb:b≤tN) (w:Nat):∃ a c L O' w',xCall T 48 [.ptr (some (tN,0))] ⟨O,b,w⟩=some (.slice a 4 c,⟨O',b,w'⟩)∧L.length=4∧Row O' 4 UnitU.cells L a∧(∀ u ∈ L,u.ok O'∧u.fits∧u.over O.length)∧under O'.length a∧Skel L∧KeepX tN O O'∧min w tN≤w'∧w'≤w:=by
 obtain ⟨Q,W,L,gQ,kQ,hW,hL,hS,hu,hx⟩:=s48_run h hb
 rw [hx w]
 unfold unitsEnd
 have hlen:=kQ.len
 have hv:(AVal.slice (some (Q.length,0)) 4 (some 4)).under (⟨O,b,w⟩:Heap).size=false:=by
  have:¬ Q.length < O.length:=by omega
  simp [AVal.under,Heap.size,this]
 have hRow:Row (Q++[.cells 4 (L.flatMap UnitU.cells)]) 4 UnitU.cells L (some (Q.length,0)):=Row.mk0 (fun _=>rfl) (by rw [dh]; rfl)
 have hok:∀ u ∈ L,u.ok (Q++[.cells 4 (L.flatMap UnitU.cells)]):=fun u hm=>(hu u hm).1.pre (Pre.app _ _)
 rcases finish_cases (h:=⟨Q++[.cells 4 (L.flatMap UnitU.cells)],b,W⟩) hv with ⟨w',h1,h2⟩ | ⟨h1,f,I,X,h2,h3,h4⟩
 ·refine ⟨some (Q.length,0),some 4,L,_,w',by rw [h1],hL,hRow,fun u hm=>⟨hok u hm,(hu u hm).2⟩,fun i o e=>?_,hS,kQ.trans (KeepX.app _ _ _),?_,?_⟩
  ·simp only [ap,bt] at e; simp; omega
  ·rcases h2 with h2 | ⟨h2,_⟩
   ·simp only at h2; omega
   ·simp only at h2; omega
  ·rcases h2 with h2 | ⟨h2,_⟩
   ·simp only at h2; omega
   ·simp only at h2; omega
 ·have hin:inI I (some (Q.length,0)):=fun i o e=>by
   simp only [ap,bt] at e
   rw [← e.1]; exact h4 _ (by simp [AVal.ids]) hlen
  have hR2:=h3.row (F':=UnitU.cells) (g:=UnitU.ren f) hRow hin fun u=>ren_unitU u
  refine ⟨renA f (some (Q.length,0)),some 4,L.map (UnitU.ren f),_,w,by rw [h2,ren_sl],by simpa using hL,hR2,fun u hm=>?_,h3.under hin (fun i o e=>?_),hS.ren f,KeepX.app _ _ _,eq ..,aj _⟩
  ·obtain ⟨v,hv,rfl⟩:=ed.1 hm
   exact ⟨(hok v hv).move h3 (hu v hv).2.2 (h3.ids hRow hin hv),(hu v hv).2.1.ren,(hu v hv).2.2.ren h3.up⟩
  ·simp only [ap,bt] at e; simp; omega
theorem s48 (h:Good O tN tb tv) (hb:b≤tN) (w:Nat):∃ a c L O' w',xCall T 48 [.ptr (some (tN,0))] ⟨O,b,w⟩=some (.slice a 4 c,⟨O',b,w'⟩)∧L.length=4∧Row O' 4 UnitU.cells L a∧(∀ u ∈ L,u.ok O'∧u.fits)∧under O'.length a∧Skel L∧KeepX tN O O'∧min w tN≤w'∧w'≤w:=by
 obtain ⟨a,c,L,O',w',h1,h2,h3,h4,h5⟩:=s48o h hb w
 exact ⟨a,c,L,O',w',h1,h2,h3,fun u hu=>⟨(h4 u hu).1,(h4 u hu).2.1⟩,h5⟩
end Go.Abs.AbsMk

namespace Go.Abs.AbsFlow
open Go.Abs.AbsDesc Go.Abs.AbsHier
open Go.Abs.AbsOrd hiding T sub
variable {os O:List AObj} {b w:Nat}
end Go.Abs.AbsFlow

namespace Go.Abs.AbsFlow
open Go.Abs.AbsDesc Go.Abs.AbsHier
open Go.Abs.AbsOrd hiding T sub
variable {os O:List AObj} {b w:Nat}
end Go.Abs.AbsFlow

namespace Go.Abs.AbsFlow
open Go.Abs.AbsDesc Go.Abs.AbsHier
open Go.Abs.AbsOrd hiding T sub
variable {os O:List AObj} {b w:Nat}
def One (O P:List AObj) (a:Option (Nat × Nat)):Prop:=(P=O∧a=none)∨∃ cs,P=O++[.cells 1 cs]∧a=some (O.length,0)∧AVal.idsL cs=[]
end Go.Abs.AbsFlow

namespace Go.Abs.AbsHier
open Go.Abs.AbsDesc
variable {os O H:List AObj} {b w:Nat}
structure Left (j:Nat) (r:Int):Prop where
 hi:r≤600
 lo:-1152921504606846976+j*562949953404928≤r
structure Went (j:Nat) (r r':Int):Prop where
 hi:r'≤600
 lo:r - j*562949953404928≤r'
end Go.Abs.AbsHier

namespace Go.Abs.AbsHier
open Go.Abs.AbsDesc
variable {os O H:List AObj} {b w:Nat}
end Go.Abs.AbsHier

namespace Go.Abs.AbsFlow
open Go.Abs.AbsDesc Go.Abs.AbsHier
open Go.Abs.AbsOrd hiding T sub
variable {os O:List AObj} {b w:Nat}
end Go.Abs.AbsFlow

namespace Go.Abs.AbsFlow
open Go.Abs.AbsDesc Go.Abs.AbsHier
open Go.Abs.AbsOrd hiding T sub
variable {os O:List AObj} {b w:Nat}
theorem s77 {h:Heap}:xCall T 77 [] h=some (.bool true,h):=closed_run (f:=code77) t77 rfl 60 rfl rfl (h':=⟨[],0,0⟩) (by kernel_rfl) h
end Go.Abs.AbsFlow

namespace Go.Abs.AbsFlow
open Go.Abs.AbsDesc Go.Abs.AbsHier
open Go.Abs.AbsOrd hiding T sub
open Go.Abs.AbsMk (AnyB made_check)
variable {os O:List AObj} {b w:Nat}
structure MadeM (m:MethU):Prop where
 fits:m.fits
 ok:checkM m=0
 op:∀ x ∈ m.code,0≤x.op∧x.op < 256
 short:m.code.length≤100000∧m.traps.length≤100000
theorem skel_made {L:List UnitU} (h:AbsMk.Skel L) (hf:∀ u ∈ L,u.fits):∀ u ∈ L,u.meths.length≤1000∧∀ m ∈ u.meths,MadeM m:=by
 have key:∀ u ∈ L,∃ l:List (Bool × Str × Str),u.meths.map AbsMk.sk=l∧l.length≤2∧∀ x ∈ l,x.2.2=AbsMk.descII:=by
  obtain ⟨u1,u2,u3,u4,rfl,h1,h2,h3,h4⟩:=h.ex
  intro u hu
  simp only [ba,b8,or_false] at hu
  rcases hu with rfl | rfl | rfl | rfl
  ·exact ⟨_,h1.2.2.2,by decide,by simp⟩
  ·exact ⟨_,h2.2.2.2,by decide,by simp⟩
  ·rcases h3.2.2.2 with e | e
   ·exact ⟨_,e,by decide,by simp⟩
   ·exact ⟨_,e,by decide,by simp⟩
  ·exact ⟨_,h4.2.2.2,by decide,by simp⟩
 intro u hu
 obtain ⟨l,e,h1,h2⟩:=key u hu
 have hl:=congrArg List.length e
 rw [List.length_map] at hl
 refine ⟨by omega,fun m hm=>?_⟩
 obtain ⟨k1,k2,k3⟩:=h.bodies u hu m hm
 have hd:m.desc=AbsMk.descII:=h2 (AbsMk.sk m) (by rw [← e]; exact ii hm)
 obtain ⟨k4,k5⟩:=made_check k1 hd
 exact ⟨(hf u hu).ms m hm,k4,k5,k2,k3⟩
section
attribute [-simp] getElem?_pos getElem?_neg List.all_eq_true
attribute [local simp] gz gs nltT nltF iltT iltF ileT nleT cf
theorem l78a {L:List MethU} {a:Option (Nat × Nat)} {c:Option Nat} {v15:AVal} {n16 n17:Nat} (hR:Row O 8 MethU.cells L a) (hok:∀ m ∈ L,m.ok O) (hM:∀ m ∈ L,MadeM m) (hb:b≤O.length) (hn:L.length≤1000):∀ (j i w:Nat),i+j=L.length→∀ (k:AExit→St→Option (AVal × Heap)),
  xK T (.loop code78L0) ⟨[(15,.val v15),(16,.val (.int .i64 n16)),(17,.val (.int .i64 n17)),(22,.val (.slice a L.length c)),(23,.val (.int .i64 L.length)),(24,.val (.int .i64 i))],⟨O,b,w⟩⟩ (k:=⟨k⟩) =
   k (.exit 2) ⟨[(15,.val v15),(16,.val (.int .i64 n16)),(17,.val (.int .i64 n17))],⟨O,b,w⟩⟩
 | 0,i,w,hi,k=>by
  rw [dk]
  simp (disch:=omega) [code78L0]
 | j+1,i,w,hi,k=>by
  obtain ⟨m,hx⟩:∃ m,L[i]? = some m:=⟨_,ak (by omega)⟩
  have hmem:=a8 hx
  have hm:=hM m hmem
  have ih:=l78a (c:=c) (v15:=v15) (n16:=n16) (n17:=n17) hR hok hM hb hn j (i+1) w (by omega) k
  have e2:((i+1:Nat):Int)=(i:Int)+1:=by omega
  rw [e2] at ih
  obtain ⟨p,o,cs,ha,hp,hpl,hcs,hv⟩:=gm hR hx
  have h76:=fun w=>s76 (b:=b) (w:=w) (hok m hmem) hm.fits hm.op hb hm.short.1 hm.short.2
  have hcm:m.cells=[.bool m.st,.str m.name,.str m.desc,.int .i64 m.stack,.int .i64 m.locals,.slice m.ca m.code.length m.cc,.slice m.ta m.traps.length m.tc,.slice m.xa m.maps.length m.xc]:=rfl
  rw [hm.ok,hcm] at h76
  rw [hcm] at hv
  rw [ha] at ih ⊢
  rw [dk]
  generalize ACode.loop code78L0=LL at ih ⊢
  simp (disch:=omega) [code78L0,hp,hv,h76,ih]
theorem l78b {L:List UnitU} {a:Option (Nat × Nat)} {c:Option Nat} (hR:Row O 4 UnitU.cells L a) (hok:∀ u ∈ L,u.ok O) (hM:∀ u ∈ L,u.meths.length≤1000∧∀ m ∈ u.meths,MadeM m) (hb:b≤O.length) (hn:L.length≤1000):∀ (j i w:Nat),i+j=L.length→∀ (k:AExit→St→Option (AVal × Heap)),
  xK T (.loop code78L1) ⟨[(15,.val (.slice a L.length c)),(16,.val (.int .i64 L.length)),(17,.val (.int .i64 i))],⟨O,b,w⟩⟩ (k:=⟨k⟩) =
   k (.exit 0) ⟨[],⟨O,b,w⟩⟩
 | 0,i,w,hi,k=>by
  rw [dk]
  simp (disch:=omega) [code78L1]
 | j+1,i,w,hi,k=>by
  obtain ⟨u,hx⟩:∃ u,L[i]? = some u:=⟨_,ak (by omega)⟩
  have hmem:=a8 hx
  obtain ⟨hm1,hm2⟩:=hM u hmem
  have hu:=hok u hmem
  have ih:=l78b (c:=c) hR hok hM hb hn j (i+1) w (by omega) k
  have e2:((i+1:Nat):Int)=(i:Int)+1:=by omega
  rw [e2] at ih
  have k1:=fun v15 n16 n17 w k=>l78a (b:=b) (c:=u.mc) (v15:=v15) (n16:=n16) (n17:=n17) hu.m hu.mok hm2 hb hm1 u.meths.length 0 w (by omega) k
  have k2:=fun k=>k1 (.slice a L.length c) L.length i w k
  clear k1
  simp only [b7] at k2
  obtain ⟨p,o,cs,ha,hp,hpl,hcs,hv⟩:=gm hR hx
  have hcu:u.cells=[.str u.name,.str u.super,.slice u.fa u.fields.length u.fc,.slice u.ma u.meths.length u.mc]:=rfl
  rw [hcu] at hv
  rw [ha] at ih k2 ⊢
  rw [dk]
  generalize ACode.loop code78L1=LL at ih ⊢
  simp (disch:=omega) [code78L1,hp,hv,k2,ih]
end
section
attribute [-simp] getElem?_pos getElem?_neg List.all_eq_true sget
attribute [local simp] gz gs nltT nltF iltT iltF ileT nleT cf dy dz d7
theorem s78 {tb:List UInt8} {a:Option (Nat × Nat)} {c:Option Nat} (hR:Row O 1 byteCell tb a) (hu:under O.length a) (hn:tb.length≤reachB) (hb:b≤O.length) :
  xCall T 78 [.slice a tb.length c] ⟨O,b,w⟩=some (.bool true,⟨O,b,w⟩):=by
 have hrb:reachB=140737488351232:=rfl
 have h77:=fun h=>s77 (h:=h)
 by_cases c1:(300:Int) < tb.length
 ·simp (disch:=omega) [az t78,code78,h77,c1]
 ·have hG:AbsMk.Good (O++[.cells 2 [.slice a tb.length c,.int .i64 0]]) O.length tb (.slice a tb.length c):=by
   refine ⟨⟨0,by rw [dh]; rfl,bz _,by omega⟩,a,c,rfl,(Pre.app O _).row hR,fun i o e=>?_⟩
   have:=hu i o e; omega
  obtain ⟨ua,uc,L,O1,w1,e1,hl,hRl,hok,hul,hS,hK,hw,hw2⟩:=AbsMk.s48 hG (b:=b) hb O.length
  have hlen:=hK.len
  simp only [bc,ce] at hlen
  have e48:=ir AbsFlow.sub (ir AbsOrd.sub e1)
  have k1:=fun w k=>l78b (b:=b) (c:=uc) hRl (fun u hm=>(hok u hm).1) (skel_made hS fun u hm=>(hok u hm).2) (by omega) (by omega) L.length 0 w (by omega) k
  rw [hl] at k1
  simp only [b7] at k1
  simp (disch:=omega) [az t78,code78,h77,c1,e48,k1]
end
end Go.Abs.AbsFlow
