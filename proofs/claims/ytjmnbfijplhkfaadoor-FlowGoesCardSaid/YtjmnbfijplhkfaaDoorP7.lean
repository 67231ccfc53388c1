/-
  Texts joined.
-/
import Derived.Test.YtjmnbfijplhkfaaDoorP0
import Derived.Test.YtjmnbfijplhkfaaDoorP6
import Derived.Test.YtjmnbfijplhkfaaDoorP5
set_option linter.unusedVariables false
set_option linter.unusedSimpArgs false
set_option maxRecDepth 100000
namespace Go.Abs.AbsFlow
open Go.Abs.AbsDesc Go.Abs.AbsHier
open Go.Abs.AbsOrd hiding T sub
variable {os O:List AObj} {b w:Nat}
section
open Go.Abs.Short
def chain (t':Nat) (L:List Nat):List (Nat × Int)→ACode
 | []=>.skip
 | [(d,x)]=>R L [o d (.bin .eql (t 3) (.const (.int .u8 x))),v t' d]
 | (d,x) :: p :: r=>.seq (R [0,3,t'] [o d (.bin .eql (t 3) (.const (.int .u8 x))),v t' d]) (.after (.cond (t t') .skip (chain t' L (p :: r))) L)
def yes (i:Int):ACode:=.seq (R [2] [o 2 (.val (n i))]) (.live [2] (.ret))
def tree (last:ACode):List (Nat × Int × List (Nat × Int))→ACode
 | []=>last
 | (t',i,l) :: r=>.seq (chain t' [0,3,t'] l) (.after (.cond (t t') (yes i) (tree last r)) [0])
def forms134:List (Nat × Int × List (Nat × Int)):=[(4,2,[(5,21),(6,22),(7,25),(8,54),(9,55),(10,58)]),
 (11,3,[(12,16)]),
 (13,4,[(14,17)]),
 (15,5,[(16,18)]),
 (17,6,[(18,20),(19,178),(20,179),(21,180),(22,181),(23,182),(24,184),(25,187),(26,189),(27,192),(28,193)]),
 (29,7,[(30,153),(31,154),(32,155),(33,156),(34,157),(35,158),(36,159),(37,160),(38,161),(39,162),(40,163),(41,164),(42,165),(43,166),(44,167),(45,198),(46,199)]),
 (47,8,[(48,132)]),
 (49,9,[(50,188)]),
 (51,1,[(52,0),(53,1),(54,9),(55,10),(56,46),(57,50),(58,51),(59,79),(60,83),(61,84),(62,87),(63,89),(64,95)]),
 (65,1,[(66,96),(67,97),(68,100),(69,101),(70,104),(71,105),(72,108),(73,109),(74,112),(75,113),(76,116),(77,117),(78,120),(79,121),(80,122),(81,123),(82,124),(83,125),(84,126),(85,127),(86,128),(87,129),(88,130),(89,131)])]
def last134:List (Nat × Int):=[(91,133),(92,136),(93,145),(94,148),(95,172),(96,173),(97,176),(98,177),(99,190),(100,191)]
theorem code134_eq:code134=⟨false,false,1,107,[.tmp 2],
 .seq (R [0] [o 2 (.val (n 0))])
 (.seq (.seq (R [0,3] [v 3 0])
 (.after (.block 0 (tree (.seq (chain 90 [0,90] last134) (.after (.cond (t 90) (yes 1) .skip) [0])) forms134)) [0]))
 (.seq (.seq (R [106] [v 101 0,o 102 (.bin .geq (t 101) (.const (.int .u8 2))),v 103 102,g 104 103 true (.val (t 0)),g 105 103 true (.bin .leq (t 104) (.const (.int .u8 8))),o 106 (.pick (t 103) (t 105) F)])
 (.after (.cond (t 106) (.seq (R [2] [o 2 (.val (n 1))])
 (.live [2] (.ret))) (.skip)) []))
 (.seq (R [2] [o 2 (.val (n 0))])
 (.live [2] (.ret))))),none⟩:=rfl
end
section
attribute [-simp] getElem?_pos getElem?_neg List.all_eq_true
attribute [local simp] gz gs nltT nltF iltT iltF ileT nleT eu
theorem chain_run {t':Nat} {c:Int} {h:Heap} (ht:3 < t') (k:AExit→St→Option (AVal × Heap)):∀ (ks:List (Nat × Int)) (s:Slots),(∀ p ∈ ks,3 < p.1∧p.1≠t')→ks≠[]→sget s 0=some (.val (.int .u8 c))→sget s 3=some (.val (.int .u8 c)) →
  xK T (chain t' [0,3,t'] ks) ⟨s,h⟩ (k:=⟨k⟩)=k .normal ⟨[(0,.val (.int .u8 c)),(3,.val (.int .u8 c)),(t',.val (.bool (ks.any fun p=>decide (c=p.2))))],h⟩
 | [],_,_,h,_,_=>absurd rfl h
 | [(d,x)],s,hd,_,h0,h3=>by
  obtain ⟨d1,d2⟩:=hd (d,x) (by simp)
  simp only at d1 d2
  have n1:d≠0:=by omega
  have n2:d≠3:=by omega
  have n3:t'≠0:=by omega
  have n4:t'≠3:=by omega
  simp (disch:=omega) [chain,h0,h3,n1,n2,n3,n4,d2]
 | (d,x) :: p :: r,s,hd,_,h0,h3=>by
  obtain ⟨d1,d2⟩:=hd (d,x) (by simp)
  simp only at d1 d2
  have n1:d≠0:=by omega
  have n2:d≠3:=by omega
  have n3:t'≠0:=by omega
  have n4:t'≠3:=by omega
  have n5:0≠t':=by omega
  have n6:3≠t':=by omega
  have ih:=fun k=>chain_run (h:=h) (c:=c) ht k (p :: r) [(0,.val (.int .u8 c)),(3,.val (.int .u8 c)),(t',.val (.bool false))] (fun q hq=>hd q (az _ hq)) (by simp) (by simp) (by simp)
  rw [chain,List.any_cons]
  generalize chain t' [0,3,t'] (p :: r)=LL at ih ⊢
  generalize ((p :: r).any fun p=>decide (c=p.2))=bb at ih ⊢
  by_cases e:c=x
  ·simp (disch:=omega) [h0,h3,n1,n2,n3,n4,n5,n6,d2,e]
  ·simp (disch:=omega) [h0,h3,n1,n2,n3,n4,n5,n6,d2,e,ih]
theorem chain_run2 {t':Nat} {c:Int} {h:Heap} (ht:3 < t') (k:AExit→St→Option (AVal × Heap)):∀ (ks:List (Nat × Int)) (s:Slots),(∀ p ∈ ks,3 < p.1∧p.1≠t')→ks≠[]→sget s 0=some (.val (.int .u8 c))→sget s 3=some (.val (.int .u8 c)) →
  xK T (chain t' [0,t'] ks) ⟨s,h⟩ (k:=⟨k⟩)=k .normal ⟨[(0,.val (.int .u8 c)),(t',.val (.bool (ks.any fun p=>decide (c=p.2))))],h⟩
 | [],_,_,h,_,_=>absurd rfl h
 | [(d,x)],s,hd,_,h0,h3=>by
  obtain ⟨d1,d2⟩:=hd (d,x) (by simp)
  simp only at d1 d2
  have n1:d≠0:=by omega
  have n2:d≠3:=by omega
  have n3:t'≠0:=by omega
  have n4:t'≠3:=by omega
  simp (disch:=omega) [chain,h0,h3,n1,n2,n3,n4,d2]
 | (d,x) :: p :: r,s,hd,_,h0,h3=>by
  obtain ⟨d1,d2⟩:=hd (d,x) (by simp)
  simp only at d1 d2
  have n1:d≠0:=by omega
  have n2:d≠3:=by omega
  have n3:t'≠0:=by omega
  have n4:t'≠3:=by omega
  have n5:0≠t':=by omega
  have n6:3≠t':=by omega
  have ih:=fun k=>chain_run2 (h:=h) (c:=c) ht k (p :: r) [(0,.val (.int .u8 c)),(3,.val (.int .u8 c)),(t',.val (.bool false))] (fun q hq=>hd q (az _ hq)) (by simp) (by simp) (by simp)
  rw [chain,List.any_cons]
  generalize chain t' [0,t'] (p :: r)=LL at ih ⊢
  generalize ((p :: r).any fun p=>decide (c=p.2))=bb at ih ⊢
  by_cases e:c=x
  ·simp (disch:=omega) [h0,h3,n1,n2,n3,n4,n5,n6,d2,e]
  ·simp (disch:=omega) [h0,h3,n1,n2,n3,n4,n5,n6,d2,e,ih]
end
def treeV (c:Int) (V:Option Int):List (Nat × Int × List (Nat × Int))→Option Int
 | []=>V
 | (_,i,l) :: r=>if l.any (fun p=>decide (c=p.2)) then some i else treeV c V r
def outK (c:Int) (h:Heap) (o:Option Int) (k:AExit→St→Option (AVal × Heap)):Option (AVal × Heap):=match o with
 | some i=>k .ret ⟨[(2,.val (.int .i64 i))],h⟩
 | none=>k .normal ⟨[(0,.val (.int .u8 c))],h⟩
section
attribute [-simp] getElem?_pos getElem?_neg List.all_eq_true
attribute [local simp] gz gs nltT nltF iltT iltF ileT nleT eu
theorem tree_run {c:Int} {h:Heap} {last:ACode} {V:Option Int}
  (hl:∀ (k:AExit→St→Option (AVal × Heap)) (s:Slots),sget s 0=some (.val (.int .u8 c))→sget s 3=some (.val (.int .u8 c))→xK T last ⟨s,h⟩ (k:=⟨k⟩)=outK c h V k) :
  ∀ (gs:List (Nat × Int × List (Nat × Int))) (s:Slots) (k:AExit→St→Option (AVal × Heap)),(∀ q ∈ gs,3 < q.1∧q.2.2≠[]∧∀ p ∈ q.2.2,3 < p.1∧p.1≠q.1)→sget s 0=some (.val (.int .u8 c))→sget s 3=some (.val (.int .u8 c)) →
  xK T (tree last gs) ⟨s,h⟩ (k:=⟨k⟩)=outK c h (treeV c V gs) k
 | [],s,k,_,h0,h3=>hl k s h0 h3
 | (t',i,l) :: r,s,k,hg,h0,h3=>by
  obtain ⟨g1,g2,g3⟩:=hg (t',i,l) (by simp)
  simp only at g1 g2 g3
  have e1:=fun k=>chain_run (h:=h) (c:=c) g1 k l s g3 g2 h0 h3
  have ih:=fun s k=>tree_run hl r s k (fun q hq=>hg q (az _ hq))
  rw [tree,treeV]
  generalize tree last r=TT at ih ⊢
  generalize chain t' [0,3,t'] l=CC at e1 ⊢
  generalize treeV c V r=o at ih ⊢
  have n0:0≠t':=by omega
  have n3:3≠t':=by omega
  have n5:t'≠0:=by omega
  have n6:t'≠3:=by omega
  cases e:l.any fun p=>decide (c=p.2) with
  | true =>
   rw [e] at e1
   simp (disch:=omega) [e1,n0,n3,yes,outK]
  | false =>
   rw [e] at e1
   have ih':=fun k=>ih [(0,.val (.int .u8 c)),(3,.val (.int .u8 c)),(t',.val (.bool false))] k (by simp) (by simp)
   cases o with
   | some j=>simp (disch:=omega) [e1,n0,n3,ih',outK]
   | none=>simp (disch:=omega) [e1,n0,n3,ih',outK]
end
def last134V (c:Int):Option Int:=if last134.any (fun p=>decide (c=p.2)) then some 1 else none
section
attribute [-simp] getElem?_pos getElem?_neg List.all_eq_true
attribute [local simp] gz gs nltT nltF iltT iltF ileT nleT eu
theorem last_run {c:Int} {h:Heap} (k:AExit→St→Option (AVal × Heap)) (s:Slots) (h0:sget s 0=some (.val (.int .u8 c))) (h3:sget s 3=some (.val (.int .u8 c))) :
  xK T (.seq (chain 90 [0,90] last134) (.after (.cond (Short.t 90) (yes 1) .skip) [0])) ⟨s,h⟩ (k:=⟨k⟩)=outK c h (last134V c) k:=by
 have e1:=fun k=>chain_run2 (t':=90) (h:=h) (c:=c) (by decide) k last134 s (by decide) (by decide) h0 h3
 unfold last134V
 generalize chain 90 [0,90] last134=CC at e1 ⊢
 cases e:last134.any fun p=>decide (c=p.2) with
 | true =>
  rw [e] at e1
  simp (disch:=omega) [e1,yes,outK]
 | false =>
  rw [e] at e1
  simp (disch:=omega) [e1,yes,outK]
end
def form134 (c:Int):Int:=match treeV c (last134V c) forms134 with
 | some i=>i
 | none=>if 2≤c∧c≤8 then 1 else 0
section
attribute [-simp] getElem?_pos getElem?_neg List.all_eq_true
attribute [local simp] gz gs nltT nltF iltT iltF ileT nleT eu
theorem s134' {c:Int} {h:Heap}:xCall T 134 [.int .u8 c] h=some (.int .i64 (form134 c),h):=by
 obtain ⟨os,b,w⟩:=h
 have e1:=fun s k=>tree_run (c:=c) (h:=⟨os,b,os.length⟩) (V:=last134V c) (fun k s h0 h3=>last_run k s h0 h3) forms134 s k (by decide)
 have e2:=fun k=>e1 [(0,.val (.int .u8 c)),(3,.val (.int .u8 c))] k (by simp) (by simp)
 have t134':=t134
 rw [code134_eq] at t134'
 generalize tree (.seq (chain 90 [0,90] last134) (.after (.cond (Short.t 90) (yes 1) .skip) [0])) forms134=TT at e2 t134'
 unfold form134
 cases e:treeV c (last134V c) forms134 with
 | some i =>
  rw [e] at e2
  simp (disch:=omega) [bf t134',e2,outK]
 | none =>
  rw [e] at e2
  by_cases c1:2≤c
  ·by_cases c2:c≤8
   ·simp (disch:=omega) [bf t134',e2,outK,c1,c2]
   ·simp (disch:=omega) [bf t134',e2,outK,c1,c2]
  ·simp (disch:=omega) [bf t134',e2,outK,c1]
end
theorem form_eq {c:Int} (h0:0≤c) (h1:c < 256):form134 c=formN c:=by
 obtain ⟨k,rfl⟩:=dc h0
 have:∀ k:Fin 256,form134 ((k:Nat):Int)=formN ((k:Nat):Int):=by decide +kernel
 exact this ⟨k,by omega⟩
theorem s134 {c:Int} {h:Heap} (h0:0≤c) (h1:c < 256):xCall T 134 [.int .u8 c] h=some (.int .i64 (formN c),h):=by
 rw [← form_eq h0 h1]; exact s134'
end Go.Abs.AbsFlow

namespace Go.Abs.AbsFlow
open Go.Abs.AbsDesc Go.Abs.AbsHier
open Go.Abs.AbsOrd hiding T sub
variable {os O:List AObj} {b w:Nat}
def isNext (m:MethU) (i:Nat) (x:InsU) (k:Nat):Bool:=decide (((formN x.op=7∧inM m x.n=true)∧(k:Int)=x.n)∨(k=i+1∧endsC x.op=false))
def nextsR (m:MethU) (i:Nat) (x:InsU):List Int:=((List.range m.code.length).filter (isNext m i x)).map fun (k:Nat)=>(k:Int)
theorem filter_none {n:Nat} {p:Nat→Bool} (h:∀ k,k < n→p k=false):(List.range n).filter p=[]:=by
 rw [List.filter_eq_nil_iff]
 intro k hk
 rw [h k (bh.1 hk)]; decide
theorem filter_one {n a:Nat} {p:Nat→Bool} (ha:a < n) (h:∀ k,k < n→(p k=true ↔ k=a)):(List.range n).filter p=[a]:=by
 induction n with
 | zero=>omega
 | succ n ih =>
  rw [List.range_succ,List.filter_append]
  by_cases e:a=n
  ·subst e
   rw [filter_none fun k hk=>by
    have:=h k (by omega)
    cases hp:p k with
    | false=>rfl
    | true=>have:=this.1 hp; omega]
   have:p a=true:=(h a (by omega)).2 rfl
   simp [this]
  ·rw [ih (by omega) fun k hk=>h k (by omega)]
   have:p n=false:=by
    cases hp:p n with
    | false=>rfl
    | true=>have:=(h n (by omega)).1 hp; omega
   simp [this]
theorem filter_two {n a c:Nat} {p:Nat→Bool} (hac:a < c) (hc:c < n) (h:∀ k,k < n→(p k=true ↔ k=a∨k=c)):(List.range n).filter p=[a,c]:=by
 induction n with
 | zero=>omega
 | succ n ih =>
  rw [List.range_succ,List.filter_append]
  by_cases e:c=n
  ·subst e
   rw [filter_one (a:=a) hac fun k hk=>by rw [h k (by omega)]; omega]
   have:p c=true:=(h c (by omega)).2 (.inr rfl)
   simp [this]
  ·rw [ih (by omega) fun k hk=>h k (by omega)]
   have:p n=false:=by
    cases hp:p n with
    | false=>rfl
    | true=>have:=(h n (by omega)).1 hp; omega
   simp [this]
theorem inM_iff {m:MethU} {i:Int}:inM m i=true ↔ 0≤i∧i < m.code.length:=by
 unfold inM inI
 rw [ap,decide_eq_true_eq,decide_eq_true_eq]; omega
theorem srt2_two (x y:Int):srt2 [x,y]=if y < x then [y,x] else if y=x then [x] else [x,y]:=rfl
theorem nexts_same {m:MethU} {i:Nat} {x:InsU} (hi:i < m.code.length):nextsR m i x=nextsL m i x:=by
 unfold nextsR nextsL
 by_cases c1:endsC x.op=false∧i+1 < m.code.length
 ·have hE:outE m.code.length i x=[((i+1:Nat):Int)]:=by unfold outE; rw [if_pos c1]
  by_cases c2:formN x.op=7∧inM m x.n=true
  ·have hB:outB m x=[x.n]:=by unfold outB; rw [if_pos c2]
   rw [hE,hB]
   obtain ⟨n1,n2⟩:=inM_iff.1 c2.2
   obtain ⟨q,hq⟩:=dc n1
   show _=srt2 [((i+1:Nat):Int),x.n]
   rw [hq,srt2_two]
   rw [hq] at n2
   by_cases d1:(q:Int) < ((i+1:Nat):Int)
   ·rw [if_pos d1,filter_two (a:=q) (c:=i+1) (by omega) c1.2 fun k hk=>?_]
    ·simp
    ·unfold isNext
     rw [decide_eq_true_eq,hq]
     constructor
     ·rintro (⟨_,h⟩ | ⟨h,_⟩)
      ·exact .inl (by omega)
      ·exact .inr h
     ·rintro (h | h)
      ·exact .inl ⟨⟨c2.1,hq ▸ c2.2⟩,by omega⟩
      ·exact .inr ⟨h,c1.1⟩
   ·rw [if_neg d1]
    by_cases d2:(q:Int)=((i+1:Nat):Int)
    ·rw [if_pos d2,filter_one (a:=i+1) c1.2 fun k hk=>?_]
     ·simp
     ·unfold isNext
      rw [decide_eq_true_eq,hq]
      constructor
      ·rintro (⟨_,h⟩ | ⟨h,_⟩)
       ·omega
       ·exact h
      ·intro h
       exact .inr ⟨h,c1.1⟩
    ·rw [if_neg d2,filter_two (a:=i+1) (c:=q) (by omega) (by omega) fun k hk=>?_]
     ·simp
     ·unfold isNext
      rw [decide_eq_true_eq,hq]
      constructor
      ·rintro (⟨_,h⟩ | ⟨h,_⟩)
       ·exact .inr (by omega)
       ·exact .inl h
      ·rintro (h | h)
       ·exact .inr ⟨h,c1.1⟩
       ·exact .inl ⟨⟨c2.1,hq ▸ c2.2⟩,by omega⟩
  ·have hB:outB m x=[]:=by unfold outB; rw [if_neg c2]
   rw [hE,hB,filter_one (a:=i+1) c1.2 fun k hk=>?_]
   ·simp [srt2]
   ·unfold isNext
    rw [decide_eq_true_eq]
    constructor
    ·rintro (⟨h,_⟩ | ⟨h,_⟩)
     ·exact absurd h c2
     ·exact h
    ·intro h
     exact .inr ⟨h,c1.1⟩
 ·have hE:outE m.code.length i x=[]:=by unfold outE; rw [if_neg c1]
  by_cases c2:formN x.op=7∧inM m x.n=true
  ·have hB:outB m x=[x.n]:=by unfold outB; rw [if_pos c2]
   rw [hE,hB]
   obtain ⟨n1,n2⟩:=inM_iff.1 c2.2
   obtain ⟨q,hq⟩:=dc n1
   rw [hq] at n2
   rw [filter_one (a:=q) (by omega) fun k hk=>?_]
   ·simp [srt2,hq]
   ·unfold isNext
    rw [decide_eq_true_eq]
    constructor
    ·rintro (⟨_,h⟩ | ⟨h,h'⟩)
     ·omega
     ·exact absurd ⟨h',by omega⟩ c1
    ·intro h
     exact .inl ⟨c2,by omega⟩
  ·have hB:outB m x=[]:=by unfold outB; rw [if_neg c2]
   rw [hE,hB,filter_none fun k hk=>?_]
   ·simp [srt2]
   ·unfold isNext
    rw [decide_eq_false_iff_not]
    rintro (⟨h,_⟩ | ⟨h,h'⟩)
    ·exact c2 h
    ·exact c1 ⟨h',by omega⟩
end Go.Abs.AbsFlow

namespace Go.Abs.AbsFlow
open Go.Abs.AbsDesc Go.Abs.AbsHier
open Go.Abs.AbsOrd hiding T sub
variable {os O:List AObj} {b w:Nat}
def goesV (m:MethU) (x:InsU):Int:=if formN x.op=7∧inM m x.n=true then x.n else -1
theorem isNext_eq {m:MethU} {i:Nat} {x:InsU} {k:Nat}:isNext m i x k=decide ((k:Int)=goesV m x∨(k=i+1∧endsC x.op=false)):=by
 unfold isNext goesV
 by_cases c:formN x.op=7∧inM m x.n=true
 ·simp [c]
 ·have:¬ (k:Int) = -1:=by omega
  simp [c,this]
section
attribute [-simp] getElem?_pos getElem?_neg List.all_eq_true
attribute [local simp] gz gs nltT nltF iltT iltF ileT nleT eu
theorem l84 {m:MethU} {i n:Nat} {x:InsU} (hb:b≤O.length) (hn:n≤1000) (hi:i≤1000):∀ (j q w:Nat) (A:List Int) (P:List AObj) (v:AVal),q+j=n→A.length≤q→O.length≤w→Acc 1 intC O A P v →
  ∃ P' v',∃ W:Nat,Acc 1 intC O (A++((List.range' q j).filter (isNext m i x)).map fun (k:Nat)=>(k:Int)) P' v'∧O.length≤W∧∀ (k:AExit→St→Option (AVal × Heap)),
  xK T (.loop code84L0) ⟨[(1,.val (.int .i64 i)),(5,.var x.cells),(6,.val (.int .i64 (goesV m x))),(7,.val v),(32,.val (.int .i64 n)),(33,.val (.int .i64 q))],⟨P,b,w⟩⟩ (k:=⟨k⟩)=k (.exit 0) ⟨[(7,.val v')],⟨P',b,W⟩⟩
 | 0,q,w,A,P,v,hq,hA,hw,h=>by
  refine ⟨P,v,w,by simpa using h,hw,fun k=>?_⟩
  rw [bp]
  simp (disch:=omega) [code84L0]
 | j+1,q,w,A,P,v,hq,hA,hw,h=>by
  have hcx:x.cells=[.int .u8 x.op,.int .i64 x.n,.int .i64 x.m,.str x.cls,.str x.name,.str x.desc,.str x.text]:=rfl
  have h83:=fun h=>s83 (c:=x.op) (h:=h)
  have e2:((q+1:Nat):Int)=(q:Int)+1:=by omega
  have he:=isNext_eq (m:=m) (i:=i) (x:=x) (k:=q)
  rw [List.range'_succ,List.filter_cons]
  by_cases c:isNext m i x q=true
  ·rw [if_pos c,dx]
   obtain ⟨P1,v1,n1,h1,hn1,_,e1⟩:=h.add (b:=b) ea hb (by':=8) (by omega) (by omega) (q:Int)
   obtain ⟨P',v',W,i1,i2,i3⟩:=l84 (m:=m) (i:=i) (x:=x) hb hn hi j (q+1) (n1 w) _ P1 v1 (by omega) (by simp; omega) (hn1 _ hw) h1
   refine ⟨P',v',W,by simpa using i1,i2,fun k=>?_⟩
   have ih:=i3 k
   have hs:intC (q:Int)=[.int .i64 q]:=rfl
   rw [hs] at e1
   rw [e2] at ih
   rw [c] at he
   have he:=of_decide_eq_true he.symm
   rw [hcx] at ih ⊢
   rw [bp]
   generalize ACode.loop code84L0=LL at ih ⊢
   by_cases c1:(q:Int)=goesV m x
   ·simp (disch:=omega) [-aAppend,code84L0,eq_true c1,e1,ih]
   ·obtain ⟨c2,c3⟩:q=i+1∧endsC x.op=false:=he.resolve_left c1
    have c2':(q:Int)=(i:Int)+1:=by omega
    rw [c3] at h83
    simp (disch:=omega) [-aAppend,code84L0,c1,eq_true c2',h83,e1,ih]
  ·rw [if_neg c]
   obtain ⟨P',v',W,i1,i2,i3⟩:=l84 (m:=m) (i:=i) (x:=x) hb hn hi j (q+1) w _ P v (by omega) (by omega) hw h
   refine ⟨P',v',W,i1,i2,fun k=>?_⟩
   have ih:=i3 k
   rw [e2] at ih
   rw [Bool.eq_false_iff.2 c] at he
   have he:=of_decide_eq_false he.symm
   have c1:¬ (q:Int)=goesV m x:=fun h=>he (.inl h)
   rw [hcx] at ih ⊢
   rw [bp]
   generalize ACode.loop code84L0=LL at ih ⊢
   by_cases c2:(q:Int)=(i:Int)+1
   ·have c3:endsC x.op=true:=by
     cases h3:endsC x.op with
     | true=>rfl
     | false=>exact absurd (.inr ⟨by omega,h3⟩) he
    rw [c3] at h83
    simp (disch:=omega) [-aAppend,code84L0,c1,eq_true c2,h83,ih]
   ·simp (disch:=omega) [-aAppend,code84L0,c1,c2,ih]
theorem s84 {m:MethU} {i:Nat} {x:InsU} (hm:m.ok O) (ho:∀ x ∈ m.code,0≤x.op∧x.op < 256) (hb:b≤O.length) (hn:m.code.length≤1000) (hx:m.code[i]? = some x) :
  xCall T 84 [.agg m.cells,.int .i64 i] ⟨O,b,w⟩=some (newV O.length (nextsL m i x),⟨newO 1 intC O (nextsL m i x),b,w⟩):=by
 have hrb:reachB=140737488351232:=rfl
 have hcm:m.cells=[.bool m.st,.str m.name,.str m.desc,.int .i64 m.stack,.int .i64 m.locals,.slice m.ca m.code.length m.cc,.slice m.ta m.traps.length m.tc,.slice m.xa m.maps.length m.xc]:=rfl
 have hil:=ah hx
 have hil':(i:Int) < m.code.length:=by omega
 obtain ⟨p,o,cs,ha,hp,hpl,hcs,hv⟩:=row_at hm.c hx
 have hcx:x.cells=[.int .u8 x.op,.int .i64 x.n,.int .i64 x.m,.str x.cls,.str x.name,.str x.desc,.str x.text]:=rfl
 rw [hcx] at hv
 have h135i:=fun h=>s135 (m:=m) (i:=(i:Int)) (h:=h) (by omega)
 rw [inM_iff.2 ⟨by omega,hil'⟩] at h135i
 have h135n:=fun h=>s135 (m:=m) (i:=x.n) (h:=h) (by omega)
 obtain ⟨o1,o2⟩:=ho x (aq hx)
 have h134:=fun h=>s134 (h:=h) o1 o2
 obtain ⟨P',v',W,i1,i2,i3⟩:=l84 (m:=m) (i:=i) (x:=x) hb hn (by omega) m.code.length 0 O.length [] O _ (by omega) (by simp) (aj _) Acc.nil
 have hL:([]++((List.range' 0 m.code.length).filter (isNext m i x)).map fun (k:Nat)=>(k:Int))=nextsL m i x:=by
  rw [← nexts_same hil,cj,← List.range_eq_range']; rfl
 rw [hL] at i1
 have hf:=i1.fin (b:=b) (w0:=w) idsI renI i2
 simp only [b7] at i3
 rw [hcx] at i3
 rw [ha] at hcm
 rw [hcm] at h135i h135n
 by_cases c1:formN x.op=7
 ·rw [c1] at h134
  cases c2:inM m x.n with
  | true =>
   rw [c2] at h135n
   have hg:goesV m x=x.n:=by unfold goesV; rw [if_pos ⟨c1,c2⟩]
   rw [hg] at i3
   simp (disch:=omega) [-aAppend,-finish,bf t84,code84,hcm,h135i,h135n,h134,hil',hp,hv,i3,hf]
  | false =>
   rw [c2] at h135n
   have hg:goesV m x = -1:=by unfold goesV; rw [if_neg fun q=>by rw [c2] at q; cases q.2]
   rw [hg] at i3
   simp (disch:=omega) [-aAppend,-finish,bf t84,code84,hcm,h135i,h135n,h134,hil',hp,hv,i3,hf]
 ·have hg:goesV m x = -1:=by unfold goesV; rw [if_neg fun q=>c1 q.1]
  rw [hg] at i3
  simp (disch:=omega) [-aAppend,-finish,bf t84,code84,hcm,h135i,h134,c1,hil',hp,hv,i3,hf]
theorem s84_none {m:MethU} {i:Int} (hn:m.code.length≤1000) (hi:inM m i=false):xCall T 84 [.agg m.cells,.int .i64 i] ⟨O,b,w⟩=some (.slice none 0 (some 0),⟨O,b,w⟩):=by
 have hrb:reachB=140737488351232:=rfl
 have hcm:m.cells=[.bool m.st,.str m.name,.str m.desc,.int .i64 m.stack,.int .i64 m.locals,.slice m.ca m.code.length m.cc,.slice m.ta m.traps.length m.tc,.slice m.xa m.maps.length m.xc]:=rfl
 have h135i:=fun h=>s135 (m:=m) (i:=i) (h:=h) (by omega)
 rw [hi] at h135i
 rw [hcm] at h135i
 simp (disch:=omega) [bf t84,code84,hcm,h135i]
theorem s74_none {m:MethU} {i:Int} (hn:m.code.length≤1000) (hi:inM m i=false):xCall T 100074 [.agg m.cells,.int .i64 i] ⟨O,b,w⟩=some (.slice none 0 (some 0),⟨O,b,w⟩):=by
 have hrb:reachB=140737488351232:=rfl
 have hcm:m.cells=[.bool m.st,.str m.name,.str m.desc,.int .i64 m.stack,.int .i64 m.locals,.slice m.ca m.code.length m.cc,.slice m.ta m.traps.length m.tc,.slice m.xa m.maps.length m.xc]:=rfl
 have h131i:=fun h=>s131 (m:=m) (i:=i) (h:=h) (by omega)
 have hnn:inI i 0 (m.code.length - 1)=inM m i:=rfl
 rw [hnn,hi] at h131i
 rw [hcm] at h131i
 simp (disch:=omega) [bf f0,code100074,hcm,h131i]
end
end Go.Abs.AbsFlow

namespace Go.Abs.AbsFlow
open Go.Abs.AbsDesc Go.Abs.AbsHier
open Go.Abs.AbsOrd hiding T sub
variable {os O:List AObj} {b w:Nat}
def come (s:List Bool × List Int) (p:Int):List Bool × List Int:=if s.1[p.toNat]? = some true then s else (s.1.set p.toNat true,s.2++[p])
structure RInv (O Q:List AObj) (s:List Bool × List Int) (a:Option (Nat × Nat)) (c:Option Nat):Prop where
 pre:Pre O Q
 o0:Q[O.length]? = some (.cells 1 (s.1.map AVal.bool))
 o1:Q[O.length+1]? = some (.cells 1 [.slice (some (O.length,0)) s.1.length (some s.1.length)])
 o2:Q[O.length+2]? = some (.cells 1 [.slice a s.2.length c])
 row:Row Q 1 intC s.2 a
 av:(a=none∧s.2=[])∨∃ i cs,O.length+2 < i∧a=some (i,0)∧c=none∧Q[i]? = some (.cells 1 cs)
theorem RInv.len {Q:List AObj} {s:List Bool × List Int} {a:Option (Nat × Nat)} {c:Option Nat} (h:RInv O Q s a c):O.length+3≤Q.length:=by
 have:=ah h.o2; omega
theorem RInv.more {Q Q':List AObj} {s:List Bool × List Int} {a:Option (Nat × Nat)} {c:Option Nat} (h:RInv O Q s a c) (hp:Pre Q Q'):RInv O Q' s a c :=
 ⟨h.pre.trans hp,hp _ _ h.o0,hp _ _ h.o1,hp _ _ h.o2,hp.row h.row,by
  rcases h.av with h1 | ⟨i,cs,h1,h2,h3,h4⟩
  ·exact .inl h1
  ·exact .inr ⟨i,cs,h1,h2,h3,hp _ _ h4⟩⟩
theorem app_row {P:List AObj} {L:List Int} {a:Option (Nat × Nat)} {c:Option Nat} (hr:Row P 1 intC L a) (hav:(a=none∧L=[])∨∃ i cs,b≤i∧a=some (i,0)∧c=none∧P[i]? = some (.cells 1 cs)) (hL:L.length≤2000) (p:Int) :
  ∃ P',∃ nx:Nat→Nat,(∀ w,aAppend 1 8 ⟨P++[.cells 1 [.int .i64 p]],b,w⟩ (.slice a L.length c) (.slice (some (P.length,0)) 1 (some 1))=some (.slice (some (P.length+1,0)) (L.length+1) none,⟨P',b,nx w⟩)) ∧
   P'[P.length+1]? = some (.cells 1 ((L++[p]).flatMap intC))∧(∀ j o,P[j]? = some o→(∀ o',a≠some (j,o'))→P'[j]? = some o)∧P'.length=P.length+2 ∧
   ∀ w m,m≤w→(∀ i o',a=some (i,o')→m≤i)→m≤nx w:=by
 have hz:∀ w,rowOf 1 ⟨P++[.cells 1 [.int .i64 p]],b,w⟩ (.slice (some (P.length,0)) 1 (some 1))=some [.int .i64 p]:=fun w =>
  rowOfC (by show (P++[AObj.cells 1 [.int .i64 p]])[P.length]? = _; rw [gd]; rfl) rfl
 have hs:(P++[AObj.cells 1 [.int .i64 p]]).length=P.length+1:=by simp
 have he:(L++[p]).flatMap intC=L.flatMap intC++[.int .i64 p]:=by simp [intC]
 have hrow:∀ w,rowOf 1 ⟨P++[.cells 1 [.int .i64 p]],b,w⟩ (.slice a L.length c)=some (L.flatMap intC):=fun w=>rowOf_row (h:=⟨P++[.cells 1 [.int .i64 p]],b,w⟩) ((Pre.app _ _).row hr)
 rcases hav with ⟨rfl,rfl⟩ | ⟨i,cs,h1,rfl,rfl,h4⟩
 ·refine ⟨P++[.cells 1 [.int .i64 p],.cells 1 [.int .i64 p]],id,fun w=>?_,by rw [get_k]; rfl,fun j o hj _=>by rw [ai (ah hj)]; exact hj,by simp,fun w m h _=>h⟩
  unfold aAppend
  simp only [hz,hrow w,aApp,alen]
  simp [Heap.push,Heap.size]
 ·have hi:=ah h4
  have h5:(P++[AObj.cells 1 [.int .i64 p]])[i]? = some (.cells 1 cs):=by rw [ai hi]; exact h4
  have hr2:∀ w,rowIs ⟨P++[.cells 1 [.int .i64 p]],b,w⟩ i 1=true:=fun w=>by
   unfold rowIs Heap.get
   simp only [h5]
   simp
  refine ⟨P.set i .dead++[.cells 1 [.int .i64 p],.cells 1 ((L++[p]).flatMap intC)],fun w=>min w i,fun w=>?_,?_,fun j o hj hne=>?_,by simp,fun w m h h'=>by have:=h' i 0 rfl; show m≤min w i; omega⟩
  ·unfold aAppend
   simp only [hz,hrow w,aApp,alen]
   have q1:¬ (1:Nat)=0:=by decide
   have q2:(L.length+1)*8≤140737488355328∧L.length+1≤9223372036854775807:=⟨by omega,by omega⟩
   have q3:¬ (none:Option Nat)=some L.length:=by simp
   have q4:(⟨P++[AObj.cells 1 [.int .i64 p]],b,w⟩:Heap).base≤i∧rowIs ⟨P++[AObj.cells 1 [.int .i64 p]],b,w⟩ i 1=true:=⟨h1,hr2 w⟩
   simp only [eq_false q1,eq_true q2,eq_false q3,eq_true q4,if_false,if_true]
   simp only [Heap.push,Heap.put,Heap.size,List.set_append_left _ _ hi,e8,hs,he,bc,ci,cj]
  ·rw [ak (by simp)]
   simp
  ·rw [ai (by rw [e8]; exact ah hj),bj (fun e=>hne 0 (by rw [e]))]; exact hj
theorem bool_get {l:List Bool} {i:Nat} {x:Bool} (h:l[i]? = some x):(l.map AVal.bool)[i]? = some (.bool x):=by rw [bz,h]; rfl
theorem splice_set {l:List Bool} {i:Nat} (hi:i < l.length):splice (l.map AVal.bool) i [.bool true]=(l.set i true).map AVal.bool:=by
 unfold splice
 apply fp
 intro j
 rw [bz,bv]
 simp only [bk,bq,bg]
 rcases Nat.lt_trichotomy j i with h | h | h
 ·have:¬ i=j:=by omega
  rw [if_neg this,bc,ai (by simp; omega),b0 h,bz]
 ·subst h
  rw [if_pos rfl,if_pos hi,bc,ak (by simp; omega)]
  simp [Nat.min_eq_left (Nat.le_of_lt hi)]
 ·have:¬ i=j:=by omega
  rw [if_neg this,ak (by simp; omega),cf]
  simp only [a8,List.length_take,List.length_map,bk,bq,bz]
  congr 2
  omega
theorem splice_set2 {l:List Bool} {i:Nat} (hi:i < l.length):List.take i (l.map AVal.bool)++AVal.bool true :: List.drop (i+1) (l.map AVal.bool)=(l.set i true).map AVal.bool:=by
 rw [← splice_set hi]
 simp [splice]
section
attribute [-simp] getElem?_pos getElem?_neg List.all_eq_true
attribute [local simp] gz gs nltT nltF iltT iltF ileT nleT eu
theorem s136 {Q:List AObj} {s:List Bool × List Int} {a:Option (Nat × Nat)} {c:Option Nat} {p:Int} (h:RInv O Q s a c) (hb:b≤O.length) (hp0:0≤p) (hp1:p < s.1.length) (hn:s.1.length≤1000) (hW:s.2.length≤2000) (hw:O.length≤w) :
  ∃ Q' a' c',∃ w':Nat,xCall T 136 [.int .i64 p,.ptr (some (O.length+1,0)),.ptr (some (O.length+2,0))] ⟨Q,b,w⟩=some (.tuple [],⟨Q',b,w'⟩)∧RInv O Q' (come s p) a' c'∧O.length≤w' ∧
   (∀ k o,O.length+2 < k→Q[k]? = some o→(∀ o',a≠some (k,o'))→Q'[k]? = some o)∧(∀ i o',a'=some (i,o')→(∃ o',a=some (i,o'))∨Q.length≤i):=by
 obtain ⟨k,rfl⟩:=dc hp0
 obtain ⟨out,W⟩:=s
 have hk:k < out.length:=by simpa using hp1
 have hk':(k:Int) < out.length:=by simpa using hp1
 simp only at hn hW
 have o0:=h.o0
 have o1:=h.o1
 have o2:=h.o2
 simp only at o0 o1 o2
 have hl:=h.len
 unfold come
 simp only [Int.toNat_natCast]
 cases hx:out[k]? with
 | none=>rw [List.getElem?_eq_none_iff] at hx; omega
 | some x =>
  have hg:=bool_get hx
  cases x with
  | true =>
   rw [if_pos rfl]
   refine ⟨Q,a,c,w,?_,h,hw,fun k o _ hk _=>hk,fun i o' e=>.inl ⟨o',e⟩⟩
   simp (disch:=omega) [bf t136,code136,o1,o0,hg,hk']
  | false =>
   rw [if_neg (by simp)]
   have hsp:=splice_set2 hk
   have hset:=ed (a:=AObj.cells 1 ((out.set k true).map AVal.bool)) (ah o0)
   generalize hQ1:Q.set O.length (AObj.cells 1 ((out.set k true).map AVal.bool))=Q1 at hset
   have hQl:Q1.length=Q.length:=by rw [← hQ1,e8]
   have hne:∀ j,j≠O.length→Q1[j]? = Q[j]?:=fun j hj=>by rw [← hQ1,bj (by omega)]
   have o1':Q1[O.length+1]? = some (.cells 1 [.slice (some (O.length,0)) out.length (some out.length)]):=by rw [hne _ (by omega)]; exact o1
   have o2':Q1[O.length+2]? = some (.cells 1 [.slice a W.length c]):=by rw [hne _ (by omega)]; exact o2
   have hrow:Row Q1 1 intC W a:=⟨fun hW0=>by
    obtain ⟨bb,o,cs,h1,h2,h3⟩:=h.row.at' hW0
    refine ⟨bb,o,cs,h1,?_,h3⟩
    rw [hne _ ?_]; exact h2
    rcases h.av with ⟨r1,_⟩ | ⟨i,_,r1,r2,_,_⟩
    ·rw [r1] at h1; cases h1
    ·rw [r2] at h1; cases h1; omega⟩
   have hav:(a=none∧W=[])∨∃ i cs,b≤i∧a=some (i,0)∧c=none∧Q1[i]? = some (.cells 1 cs):=by
    rcases h.av with r | ⟨i,cs,r1,r2,r3,r4⟩
    ·exact .inl r
    ·exact .inr ⟨i,cs,by omega,r2,r3,by rw [hne _ (by omega)]; exact r4⟩
   have hai:∀ i o',a=some (i,o')→O.length+2 < i:=fun i o' e=>by
    rcases h.av with ⟨r,_⟩ | ⟨j,cs,r1,r2,r3,r4⟩
    ·rw [r] at e; cases e
    ·rw [r2] at e; cases e; exact r1
   obtain ⟨P',nx,e1,e2,e3,e4,e5⟩:=app_row (b:=b) hrow hav hW (k:Int)
   rw [hQl] at e1 e2 e4
   have p2:P'[O.length+2]? = some (.cells 1 [.slice a W.length c]):=e3 _ _ o2' fun o' e=>by have:=hai _ _ e; omega
   have p2l:=ah p2
   have hfin:∀ j,j≠O.length+2→(P'.set (O.length+2) (.cells 1 [.slice (some (Q.length+1,0)) (W.length+1) none]))[j]? = P'[j]?:=fun j hj=>bj (by omega)
   have hpres:∀ j o,j≠O.length→j≠O.length+2→Q[j]? = some o→(∀ o',a≠some (j,o'))→(P'.set (O.length+2) (.cells 1 [.slice (some (Q.length+1,0)) (W.length+1) none]))[j]? = some o:=fun j o j1 j2 j3 j4=>by
    rw [hfin j j2]; exact e3 j o (by rw [hne j j1]; exact j3) j4
   have hrow':(P'.set (O.length+2) (.cells 1 [.slice (some (Q.length+1,0)) (W.length+1) none]))[Q.length+1]? = some (.cells 1 ((W++[(k:Int)]).flatMap intC)):=by rw [hfin _ (by omega)]; exact e2
   refine ⟨P'.set (O.length+2) (.cells 1 [.slice (some (Q.length+1,0)) (W.length+1) none]),some (Q.length+1,0),none,min w (min (nx O.length) (O.length+2)),?_,⟨?_,?_,?_,?_,?_,?_⟩,?_,?_,?_⟩
   ·have hsl:(O.length < Q.length):=by omega
    have hQ2:=hQ1
    rw [List.map_set] at hQ2 hsp
    simp (disch:=omega) [-aAppend,bf t136,code136,o1,o0,o2,hg,hk',hsp,hQ2,o2',e1,p2,hQl]
   ·exact fun i o hi=>hpres i o (by have:=ah hi; omega) (by have:=ah hi; omega) (h.pre _ _ hi) fun o' e=>by have:=hai _ _ e; have:=ah hi; omega
   ·simp only
    rw [hfin _ (by omega)]
    exact e3 _ _ hset fun o' e=>by have:=hai _ _ e; omega
   ·simp only [e8]
    rw [hfin _ (by omega)]
    exact e3 _ _ o1' fun o' e=>by have:=hai _ _ e; omega
   ·simp only [a8,bk,bq,bg]
    exact ed p2l
   ·exact Row.mk0 ea hrow'
   ·exact .inr ⟨Q.length+1,_,by omega,rfl,rfl,hrow'⟩
   ·have:=e5 O.length O.length (aj _) fun i o' e=>by have:=hai _ _ e; omega
    omega
   ·intro j o j1 j2 j3
    exact hpres j o (by omega) (by omega) j2 j3
   ·intro i o' e
    cases e
    exact .inr (by omega)
end
end Go.Abs.AbsFlow

namespace Go.Abs.AbsFlow
open Go.Abs.AbsDesc Go.Abs.AbsHier
open Go.Abs.AbsOrd hiding T sub
inductive Rch (m:MethU):Nat→Prop
 | zero:0 < m.code.length→Rch m 0
 | next (i:Nat) (x:InsU) (p:Int):Rch m i→m.code[i]? = some x→p ∈ nextsL m i x→Rch m p.toNat
 | trap (i:Nat) (t:TrapU):Rch m i→t ∈ m.traps→t.lo≤i→(i:Int) < t.hi→inM m t.at'=true→Rch m t.at'.toNat
def IsR (m:MethU) (r:List Bool):Prop:=r.length=m.code.length∧∀ k,k < m.code.length→(r[k]? = some true ↔ Rch m k)
theorem IsR.same {m:MethU} {r s:List Bool} (h:IsR m r) (h':IsR m s):r=s:=by
 apply fp
 intro k
 by_cases hk:k < m.code.length
 ·have h1:=h.2 k hk
  have h2:=h'.2 k hk
  obtain ⟨x,hr⟩:∃ x,r[k]? = some x:=⟨_,ag (by rw [h.1]; exact hk)⟩
  obtain ⟨y,hs⟩:∃ y,s[k]? = some y:=⟨_,ag (by rw [h'.1]; exact hk)⟩
  rw [hr] at h1 ⊢
  rw [hs] at h2 ⊢
  simp only [Option.some.injEq] at h1 h2 ⊢
  have h3:=h1.trans h2.symm
  cases x <;> cases y <;> simp_all
 ·rw [aw (by rw [h.1]; omega),aw (by rw [h'.1]; omega)]
theorem nexts_in {m:MethU} {i:Nat} {x:InsU} (hi:i < m.code.length) {p:Int} (hp:p ∈ nextsL m i x):0≤p∧p < m.code.length:=by
 rw [← nexts_same hi] at hp
 unfold nextsR at hp
 obtain ⟨k,hk,rfl⟩:=List.mem_map.1 hp
 have:=bh.1 (db.1 hk).1
 omega
def Done (m:MethU) (out:List Bool) (i:Nat) (x:InsU):Prop:=(∀ p ∈ nextsL m i x,out[p.toNat]? = some true)∧∀ t ∈ m.traps,t.lo≤i→(i:Int) < t.hi→inM m t.at'=true→out[t.at'.toNat]? = some true
theorem Done.mono {m:MethU} {o1 o2:List Bool} {i:Nat} {x:InsU} (h:Done m o1 i x) (hm:∀ k:Nat,o1[k]? = some true→o2[k]? = some true):Done m o2 i x:=⟨fun p hp=>hm _ (h.1 p hp),fun t h1 h2 h3 h4=>hm _ (h.2 t h1 h2 h3 h4)⟩
theorem come_len (s:List Bool × List Int) (p:Int):(come s p).1.length=s.1.length:=by
 unfold come; split <;> simp
theorem come_mono {s:List Bool × List Int} {p:Int} {k:Nat} (h:s.1[k]? = some true):(come s p).1[k]? = some true:=by
 unfold come
 split
 ·exact h
 ·simp only
  rw [bv]
  split
  ·rw [if_pos (by rename_i e; have:=ah h; omega)]
  ·exact h
theorem come_at {s:List Bool × List Int} {p:Int} (h:p.toNat < s.1.length):(come s p).1[p.toNat]? = some true:=by
 unfold come
 split
 ·assumption
 ·exact ed h
theorem come_new {s:List Bool × List Int} {p:Int} {k:Nat} (h:(come s p).1[k]? = some true):s.1[k]? = some true∨(k=p.toNat∧(come s p).2=s.2++[p]):=by
 unfold come at h ⊢
 split at h
 ·exact .inl h
 ·rename_i hn
  rw [if_neg hn]
  simp only at h ⊢
  rw [bv] at h
  split at h
  ·rename_i e; exact .inr ⟨e.symm,trivial⟩
  ·exact .inl h
theorem come_work {s:List Bool × List Int} {p q:Int} (h:q ∈ s.2):q ∈ (come s p).2:=by
 unfold come
 split
 ·exact h
 ·exact co _ h
theorem come_from {s:List Bool × List Int} {p q:Int} (h:q ∈ (come s p).2):q ∈ s.2∨q=p:=by
 unfold come at h
 split at h
 ·exact .inl h
 ·rcases bd.1 h with h | h
  ·exact .inl h
  ·exact .inr (bt.1 h)
theorem come_cnt {s:List Bool × List Int} {p:Int} (h:p.toNat < s.1.length):(come s p).1.count false+(come s p).2.length=s.1.count false+s.2.length:=by
 unfold come
 split
 ·rfl
 ·rename_i hn
  simp only
  rw [List.count_set h]
  have hx:s.1[p.toNat]=false:=by
   rw [ag h] at hn
   cases hx:s.1[p.toNat] with
   | false=>rfl
   | true=>rw [hx] at hn; exact absurd rfl hn
  have hpos:0 < s.1.count false:=List.count_pos_iff.2 (by rw [← hx]; exact List.getElem_mem h)
  simp [hx]
  omega
structure Mk (m:MethU) (E:Nat→Prop) (s:List Bool × List Int):Prop where
 len:s.1.length=m.code.length
 rch:∀ k:Nat,s.1[k]? = some true→Rch m k
 wrk:∀ p ∈ s.2,0≤p∧s.1[p.toNat]? = some true
 cl:∀ (i:Nat) (x:InsU),s.1[i]? = some true→m.code[i]? = some x→(i:Int) ∈ s.2∨E i∨Done m s.1 i x
 z:0 < m.code.length→s.1[0]? = some true
 few:s.1.count false+s.2.length≤m.code.length
theorem Mk.put1 {m:MethU} {E:Nat→Prop} {s:List Bool × List Int} {p:Int} (h:Mk m E s) (h0:0≤p) (h1:p < m.code.length) (hr:Rch m p.toNat):Mk m E (come s p):=by
 have hp:p.toNat < s.1.length:=by rw [h.len]; omega
 refine ⟨by rw [come_len,h.len],fun k hk=>?_,fun q hq=>?_,fun i x hi hx=>?_,fun hz=>come_mono (h.z hz),by rw [come_cnt hp]; exact h.few⟩
 ·rcases come_new hk with h2 | ⟨rfl,_⟩
  ·exact h.rch k h2
  ·exact hr
 ·rcases come_from hq with h2 | rfl
  ·exact ⟨(h.wrk q h2).1,come_mono (h.wrk q h2).2⟩
  ·exact ⟨h0,come_at hp⟩
 ·rcases come_new hi with h2 | ⟨rfl,h2⟩
  ·rcases h.cl i x h2 hx with h3 | h3 | h3
   ·exact .inl (come_work h3)
   ·exact .inr (.inl h3)
   ·exact .inr (.inr (h3.mono fun k=>come_mono))
  ·left
   rw [h2]
   exact dj _ (bt.2 (by omega))
theorem comeL_mono {L:List Int}:∀ {s:List Bool × List Int} {k:Nat},s.1[k]? = some true→(L.foldl come s).1[k]? = some true:=by
 induction L with
 | nil=>exact fun h=>h
 | cons p L ih=>exact fun h=>ih (come_mono h)
theorem comeL_len:∀ (L:List Int) (s:List Bool × List Int),(L.foldl come s).1.length=s.1.length
 | [],_=>rfl
 | p :: L,s=>by rw [b8,comeL_len L,come_len]
theorem Mk.puts {m:MethU} {E:Nat→Prop}:∀ {L:List Int} {s:List Bool × List Int},Mk m E s→(∀ p ∈ L,0≤p∧p < m.code.length∧Rch m p.toNat)→Mk m E (L.foldl come s)∧∀ p ∈ L,(L.foldl come s).1[p.toNat]? = some true
 | [],s,h,_=>⟨h,fun p hp=>by cases hp⟩
 | p :: L,s,h,hL=>by
  obtain ⟨p1,p2,p3⟩:=hL p (by simp)
  obtain ⟨h1,h2⟩:=Mk.puts (L:=L) (h.put1 p1 p2 p3) fun q hq=>hL q (az _ hq)
  refine ⟨h1,fun q hq=>?_⟩
  rcases ce.1 hq with rfl | hq
  ·rw [b8]
   exact comeL_mono (come_at (by rw [h.len]; omega))
  ·exact h2 q hq
def trapsAt (m:MethU) (i:Int) (L:List TrapU):List Int:=(L.filter fun t=>decide (t.lo≤i∧i < t.hi∧inM m t.at'=true)).map TrapU.at'
theorem trapsAt_mem {m:MethU} {i:Int} {p:Int} (h:p ∈ trapsAt m i m.traps):∃ t ∈ m.traps,t.lo≤i∧i < t.hi∧inM m t.at'=true∧p=t.at':=by
 obtain ⟨t,ht,rfl⟩:=List.mem_map.1 h
 obtain ⟨h1,h2⟩:=db.1 ht
 obtain ⟨h3,h4,h5⟩:=of_decide_eq_true h2
 exact ⟨t,h1,h3,h4,h5,rfl⟩
theorem Mk.step {m:MethU} {out:List Bool} {W:List Int} {i:Nat} {x:InsU} (h:Mk m (fun _=>False) (out,W++[(i:Int)])) (hx:m.code[i]? = some x) :
  Mk m (fun _=>False) ((trapsAt m i m.traps).foldl come ((nextsL m i x).foldl come (out,W))):=by
 have hil:=ah hx
 have hio:out[i]? = some true:=by
  have:=(h.wrk i (by simp)).2
  simpa using this
 have hri:=h.rch i hio
 have h0:Mk m (fun j=>j=i) (out,W):=by
  refine ⟨h.len,h.rch,fun p hp=>h.wrk p (co _ hp),fun j y hj hy=>?_,h.z,by have:=h.few; simp at this ⊢; omega⟩
  rcases h.cl j y hj hy with h1 | h1 | h1
  ·rcases bd.1 h1 with h1 | h1
   ·exact .inl h1
   ·exact .inr (.inl (by have:=bt.1 h1; omega))
  ·exact h1.elim
  ·exact .inr (.inr h1)
 obtain ⟨h1,d1⟩:=h0.puts (L:=nextsL m i x) fun p hp=>⟨(nexts_in hil hp).1,(nexts_in hil hp).2,.next i x p hri hx hp⟩
 obtain ⟨h2,d2⟩:=h1.puts (L:=trapsAt m i m.traps) fun p hp=>by
  obtain ⟨t,t1,t2,t3,t4,rfl⟩:=trapsAt_mem hp
  obtain ⟨u1,u2⟩:=inM_iff.1 t4
  exact ⟨u1,u2,.trap i t hri t1 t2 t3 t4⟩
 refine ⟨h2.len,h2.rch,h2.wrk,fun j y hj hy=>?_,h2.z,h2.few⟩
 rcases h2.cl j y hj hy with h3 | h3 | h3
 ·exact .inl h3
 ·subst h3
  rw [hx] at hy; cases hy
  refine .inr (.inr ⟨fun p hp=>comeL_mono (d1 p hp),fun t t1 t2 t3 t4=>d2 t.at' ?_⟩)
  exact List.mem_map.2 ⟨t,db.2 ⟨t1,decide_eq_true ⟨t2,t3,t4⟩⟩,rfl⟩
 ·exact .inr (.inr h3)
theorem isR_of {m:MethU} {out:List Bool} (hl:out.length=m.code.length) (hr:∀ k:Nat,out[k]? = some true→Rch m k) (hz:0 < m.code.length→out[0]? = some true)
  (hc:∀ (i:Nat) (x:InsU),out[i]? = some true→m.code[i]? = some x→Done m out i x):IsR m out:=by
 refine ⟨hl,fun k hk=>⟨hr k,fun h=>?_⟩⟩
 clear hk
 induction h with
 | zero h=>exact hz h
 | next i x p h1 h2 h3 ih=>exact (hc i x ih h2).1 p h3
 | trap i t h1 h2 h3 h4 h5 ih =>
  obtain ⟨x,hx⟩:∃ x,m.code[i]? = some x:=⟨_,ag (by have:=ah ih; omega)⟩
  exact (hc i x ih hx).2 t h2 h3 h4 h5
theorem Mk.fin {m:MethU} {out:List Bool} (h:Mk m (fun _=>False) (out,[])):IsR m out :=
 isR_of h.len h.rch h.z fun i x hi hx=>by
  rcases h.cl i x hi hx with h1 | h1 | h1
  ·cases h1
  ·exact h1.elim
  ·exact h1
theorem Mk.start {m:MethU} (hn:0 < m.code.length):Mk m (fun _=>False) (come (List.replicate m.code.length false,[]) 0):=by
 have hc:come (List.replicate m.code.length false,[]) 0=((List.replicate m.code.length false).set 0 true,[0]):=by
  unfold come
  rw [if_neg]
  ·rfl
  ·simp only [Int.toNat_zero]
   rw [fq]
   split <;> simp
 rw [hc]
 have hs:∀ k:Nat,((List.replicate m.code.length false).set 0 true)[k]? = some true→k=0:=fun k hk=>by
  rw [bv] at hk
  split at hk
  ·rename_i e; exact e.symm
  ·rw [fq] at hk
   split at hk <;> simp at hk
 have h0:((List.replicate m.code.length false).set 0 true)[0]? = some true:=ed (by simpa using hn)
 refine ⟨by simp,fun k hk=>?_,fun p hp=>?_,fun i x hi hx=>?_,fun _=>h0,?_⟩
 ·rw [hs k hk]; exact .zero hn
 ·rw [bt.1 hp]; exact ⟨by decide,h0⟩
 ·left; rw [hs i hi]; simp
 ·simp only
  rw [List.count_set (by simpa using hn)]
  simp
  omega
theorem Mk.nil {m:MethU} (hn:m.code.length=0):Mk m (fun _=>False) (List.replicate m.code.length false,[]):=by
 have h0:∀ k:Nat,(List.replicate m.code.length false)[k]?≠some true:=fun k hk=>by
  rw [hn] at hk; simp at hk
 refine ⟨by simp,fun k hk=>absurd hk (h0 k),(fun p hp=>by cases hp),fun i x hi _=>absurd hi (h0 i),(fun h=>by omega),by simp⟩
end Go.Abs.AbsFlow

namespace Go.Abs.AbsFlow
open Go.Abs.AbsDesc Go.Abs.AbsHier
open Go.Abs.AbsOrd hiding T sub
variable {os O:List AObj} {b w:Nat}
abbrev fr80 (n:Nat) (m:MethU) (at':Int):Slots:=[(1,.var m.cells),(3,.val (.ptr (some (n+1,0)))),(4,.val (.ptr (some (n+2,0)))),(5,.val (.func 136 [] [.ptr (some (n+1,0)),.ptr (some (n+2,0))])),(6,.val (.int .i64 at'))]
section
attribute [-simp] getElem?_pos getElem?_neg List.all_eq_true
attribute [local simp] gz gs nltT nltF iltT iltF ileT nleT eu
theorem l80a {m:MethU} {at':Int} {L:List Int} {aL:Option (Nat × Nat)} {cL:Option Nat} (hb:b≤O.length) (hL:L.length≤100):∀ (j q w:Nat) (Q:List AObj) (s:List Bool × List Int) (a:Option (Nat × Nat)) (c:Option Nat),q+j=L.length→RInv O Q s a c→Row Q 1 intC L aL→(∀ i o,aL=some (i,o)→O.length+2 < i∧∀ o',a≠some (i,o'))→(∀ p ∈ L,0≤p∧p < s.1.length)→s.1.length≤1000→s.2.length+j≤2000→O.length≤w →
  ∃ Q' a' c',∃ w':Nat,RInv O Q' ((L.drop q).foldl come s) a' c'∧O.length≤w'∧∀ (k:AExit→St→Option (AVal × Heap)),
  xK T (.loop code100080L1) ⟨fr80 O.length m at'++[(37,.val (.slice aL L.length cL)),(38,.val (.int .i64 L.length)),(39,.val (.int .i64 q))],⟨Q,b,w⟩⟩ (k:=⟨k⟩)=k (.exit 2) ⟨fr80 O.length m at',⟨Q',b,w'⟩⟩
 | 0,q,w,Q,s,a,c,hq,h,hR,hne,hp,hn,hW,hw=>by
  refine ⟨Q,a,c,w,by rw [e6 (by omega)]; exact h,hw,fun k=>?_⟩
  rw [bp]
  simp (disch:=omega) [code100080L1,fr80]
 | j+1,q,w,Q,s,a,c,hq,h,hR,hne,hp,hn,hW,hw=>by
  obtain ⟨x,hx⟩:∃ x,L[q]? = some x:=⟨_,ag (by omega)⟩
  obtain ⟨i,o,cs,ha,hi,hv⟩:=int_at hR hx
  obtain ⟨x0,x1⟩:=hp x (aq hx)
  obtain ⟨n1,n2⟩:=hne i o ha
  obtain ⟨Q1,a1,c1,w1,e1,r1,v1,k1,k2⟩:=s136 h hb x0 x1 hn (by omega) hw
  have hi1:Q1[i]? = some (.cells 1 cs):=k1 i _ n1 hi n2
  have hR1:Row Q1 1 intC L aL:=⟨fun hL0=>by
   obtain ⟨b2,o2,cs2,h1,h2,h3⟩:=hR.at' hL0
   rw [ha] at h1; injection h1 with h1; injection h1 with h1 h1'; subst h1 h1'
   rw [hi] at h2; injection h2 with h2; injection h2 with _ h2; subst h2
   exact ⟨i,o,cs,ha,hi1,h3⟩⟩
  have hne1:∀ i o,aL=some (i,o)→O.length+2 < i∧∀ o',a1≠some (i,o'):=fun i' o' e=>by
   rw [ha] at e; cases e
   refine ⟨n1,fun o2 e2=>?_⟩
   rcases k2 _ _ e2 with ⟨o3,h3⟩ | h3
   ·exact n2 o3 h3
   ·have:=ah hi; omega
  have hlen:=come_len s x
  have hwk:(come s x).2.length≤s.2.length+1:=by unfold come; split <;> simp
  obtain ⟨Q',a',c',w',i1,i2,i3⟩:=l80a (m:=m) (at':=at') (cL:=cL) hb hL j (q+1) w1 Q1 (come s x) a1 c1 (by omega) r1 hR1 hne1 (by rw [hlen]; exact hp) (by omega) (by omega) v1
  refine ⟨Q',a',c',w',by rw [gk hx,b8]; exact i1,i2,fun k=>?_⟩
  have ih:=i3 k
  have e2:((q+1:Nat):Int)=(q:Int)+1:=by omega
  rw [e2] at ih
  rw [ha] at ih ⊢
  simp only [fr80,ci,cj] at ih ⊢
  rw [bp]
  generalize ACode.loop code100080L1=LL at ih ⊢
  simp (disch:=omega) [code100080L1,hi,hv,e1,ih]
theorem l80b {m:MethU} {at':Int} (hm:m.ok O) (hb:b≤O.length) (hT:m.traps.length≤1000) (hcl:m.code.length≤1000):∀ (j q w:Nat) (Q:List AObj) (s:List Bool × List Int) (a:Option (Nat × Nat)) (c:Option Nat),q+j=m.traps.length→RInv O Q s a c→s.1.length=m.code.length→s.2.length+j≤2000→O.length≤w →
  ∃ Q' a' c',∃ w':Nat,RInv O Q' ((trapsAt m at' (m.traps.drop q)).foldl come s) a' c'∧O.length≤w'∧∀ (k:AExit→St→Option (AVal × Heap)),
  xK T (.loop code100080L0) ⟨fr80 O.length m at'++[(48,.val (.slice m.ta m.traps.length m.tc)),(49,.val (.int .i64 m.traps.length)),(50,.val (.int .i64 q))],⟨Q,b,w⟩⟩ (k:=⟨k⟩)=k (.exit 4) ⟨(fr80 O.length m at').take 4,⟨Q',b,w'⟩⟩
 | 0,q,w,Q,s,a,c,hq,h,hsl,hW,hw=>by
  refine ⟨Q,a,c,w,by rw [e6 (by omega)]; exact h,hw,fun k=>?_⟩
  rw [bp]
  simp (disch:=omega) [code100080L0,fr80]
 | j+1,q,w,Q,s,a,c,hq,h,hsl,hW,hw=>by
  have hrb:reachB=140737488351232:=rfl
  have hcm:m.cells=[.bool m.st,.str m.name,.str m.desc,.int .i64 m.stack,.int .i64 m.locals,.slice m.ca m.code.length m.cc,.slice m.ta m.traps.length m.tc,.slice m.xa m.maps.length m.xc]:=rfl
  obtain ⟨t,ht⟩:∃ t,m.traps[q]? = some t:=⟨_,ag (by omega)⟩
  have hm1:=MethU.ok.pre h.pre hm
  obtain ⟨i,o,cs,ha,hi,hil,hcs,hv⟩:=row_at hm1.t ht
  have hct:t.cells=[.int .i64 t.lo,.int .i64 t.hi,.int .i64 t.at',.str t.cls]:=rfl
  rw [hct] at hv
  have h131:=fun h=>s131 (m:=m) (i:=t.at') (h:=h) (by omega)
  have hnn:inI t.at' 0 (m.code.length - 1)=inM m t.at':=rfl
  rw [hnn] at h131
  have e2:((q+1:Nat):Int)=(q:Int)+1:=by omega
  by_cases cc:t.lo≤at'∧at' < t.hi∧inM m t.at'=true
  ·obtain ⟨c1,c2,c3⟩:=cc
   obtain ⟨x0,x1⟩:=inM_iff.1 c3
   obtain ⟨Q1,a1,c1',w1,e1,r1,v1,k1,k2⟩:=s136 h hb x0 (by rw [hsl]; exact x1) (by omega) (by omega) hw
   have hlen:=come_len s t.at'
   have hwk:(come s t.at').2.length≤s.2.length+1:=by unfold come; split <;> simp
   obtain ⟨Q',a',c',w',i1,i2,i3⟩:=l80b (at':=at') hm hb hT hcl j (q+1) w1 Q1 (come s t.at') a1 c1' (by omega) r1 (by omega) (by omega) v1
   refine ⟨Q',a',c',w',?_,i2,fun k=>?_⟩
   ·have:trapsAt m at' (m.traps.drop q)=t.at' :: trapsAt m at' (m.traps.drop (q+1)):=by
     unfold trapsAt
     rw [gk ht,List.filter_cons,if_pos (decide_eq_true ⟨c1,c2,c3⟩),dx]
    rw [this,b8]; exact i1
   ·have ih:=i3 k
    rw [e2] at ih
    rw [c3] at h131
    rw [ha] at ih hcm ⊢
    simp only [fr80,ci,cj,eh,List.take_zero] at ih ⊢
    rw [hcm] at h131 ih ⊢
    rw [bp]
    generalize ACode.loop code100080L0=LL at ih ⊢
    simp (disch:=omega) [code100080L0,hi,hv,h131,c1,c2,e1,ih]
  ·obtain ⟨Q',a',c',w',i1,i2,i3⟩:=l80b (at':=at') hm hb hT hcl j (q+1) w Q s a c (by omega) h hsl (by omega) hw
   refine ⟨Q',a',c',w',?_,i2,fun k=>?_⟩
   ·have:trapsAt m at' (m.traps.drop q)=trapsAt m at' (m.traps.drop (q+1)):=by
     unfold trapsAt
     rw [gk ht,List.filter_cons,if_neg (by simpa using cc)]
    rw [this]; exact i1
   ·have ih:=i3 k
    rw [e2] at ih
    rw [ha] at ih hcm ⊢
    simp only [fr80,ci,cj,eh,List.take_zero] at ih ⊢
    rw [hcm] at h131 ih ⊢
    rw [bp]
    generalize ACode.loop code100080L0=LL at ih ⊢
    by_cases c1:t.lo≤at'
    ·by_cases c2:at' < t.hi
     ·have c3:inM m t.at'=false:=Bool.eq_false_iff.2 fun c3=>cc ⟨c1,c2,c3⟩
      rw [c3] at h131
      simp (disch:=omega) [code100080L0,hi,hv,h131,c1,c2,ih]
     ·simp (disch:=omega) [code100080L0,hi,hv,c1,c2,ih]
    ·simp (disch:=omega) [code100080L0,hi,hv,c1,ih]
end
theorem dropLast_snoc {α:Type} {L:List α} (h:L≠[]):∃ A x,L=A++[x]:=⟨L.dropLast,L.getLast h,(List.dropLast_concat_getLast h).symm⟩
theorem trapsAt_few {m:MethU} {i:Int} {L:List TrapU}:(trapsAt m i L).length≤L.length:=by
 unfold trapsAt
 rw [List.length_map]
 exact List.length_filter_le _ _
section
attribute [-simp] getElem?_pos getElem?_neg List.all_eq_true
attribute [local simp] gz gs nltT nltF iltT iltF ileT nleT eu
theorem l80c {m:MethU} (hm:m.ok O) (ho:∀ x ∈ m.code,0≤x.op∧x.op < 256) (hb:b≤O.length) (hT:m.traps.length≤900) (hcl:m.code.length≤1000):∀ (f w:Nat) (Q:List AObj) (s:List Bool × List Int) (a:Option (Nat × Nat)) (c:Option Nat),s.1.count false+s.2.length≤f→RInv O Q s a c→Mk m (fun _=>False) s→O.length≤w →
  ∃ Q' out a' c',∃ w':Nat,RInv O Q' (out,[]) a' c'∧IsR m out∧O.length≤w'∧∀ (k:AExit→St→Option (AVal × Heap)),
  xK T (.loop code100080L2) ⟨(fr80 O.length m 0).take 4,⟨Q,b,w⟩⟩ (k:=⟨k⟩)=k (.exit 0) ⟨[(3,.val (.ptr (some (O.length+1,0))))],⟨Q',b,w'⟩⟩:=by
 intro f
 induction f with
 | zero =>
  intro w Q s a c hf h hk hw
  obtain ⟨out,W⟩:=s
  have hW:W=[]:=a9 (by simp only at hf; omega)
  subst hW
  refine ⟨Q,out,a,c,w,h,hk.fin,hw,fun k=>?_⟩
  have o2:=h.o2
  simp only [bq] at o2
  simp only [fr80,eh,List.take_zero]
  rw [bp]
  simp (disch:=omega) [code100080L2,o2]
 | succ f ih =>
  intro w Q s a c hf h hk hw
  obtain ⟨out,W⟩:=s
  have o2:=h.o2
  simp only at o2
  by_cases hW:W=[]
  ·subst hW
   refine ⟨Q,out,a,c,w,h,hk.fin,hw,fun k=>?_⟩
   simp only [bq] at o2
   simp only [fr80,eh,List.take_zero]
   rw [bp]
   simp (disch:=omega) [code100080L2,o2]
  ·obtain ⟨A,at',rfl⟩:=dropLast_snoc hW
   obtain ⟨at0,hw0⟩:=hk.wrk at' (by simp)
   obtain ⟨i,rfl⟩:=dc at0
   simp only [Int.toNat_natCast] at hw0
   have hio:=ah hw0
   have hlen:=hk.len
   simp only at hlen
   obtain ⟨x,hx⟩:∃ x,m.code[i]? = some x:=⟨_,ag (by omega)⟩
   have hst:=hk.step hx
   obtain ⟨q,cs,q1,q2,q3,q4⟩:∃ q cs,O.length+2 < q∧a=some (q,0)∧c=none∧Q[q]? = some (.cells 1 cs):=by
    rcases h.av with ⟨_,h1⟩ | h1
    ·simp at h1
    ·exact h1
   subst q2 q3
   have hfew:=hk.few
   simp only [a8,bk,bq,bg] at hfew
   have hat:∃ p o cs',(some (q,0):Option (Nat × Nat))=some (p,o)∧Q[p]? = some (.cells 1 cs')∧cs'[o+A.length]? = some (.int .i64 i):=int_at h.row (by simp)
   obtain ⟨_,_,_,e1,hq',hat⟩:=hat
   cases e1
   rw [q4] at hq'; cases hq'
   rw [bg] at hat
   simp only [a8,bk,bq,bg] at o2
   generalize hQ1:Q.set (O.length+2) (.cells 1 [.slice (some (q,0)) A.length none])=Q1
   have hset:Q1[O.length+2]? = some (.cells 1 [.slice (some (q,0)) A.length none]):=by rw [← hQ1]; exact ed (ah o2)
   have hne:∀ j,j≠O.length+2→Q1[j]? = Q[j]?:=fun j hj=>by rw [← hQ1,bj (by omega)]
   have q4':Q1[q]? = some (.cells 1 cs):=by rw [hne _ (by omega)]; exact q4
   have r1:RInv O Q1 (out,A) (some (q,0)) none:=by
    refine ⟨fun j o hj=>?_,?_,?_,hset,⟨fun hA=>⟨q,0,cs,rfl,q4',fun j y hy=>?_⟩⟩,.inr ⟨q,cs,q1,rfl,rfl,q4'⟩⟩
    ·rw [hne _ (by have:=ah hj; omega)]; exact h.pre _ _ hj
    ·rw [hne _ (by omega)]; exact h.o0
    ·rw [hne _ (by omega)]; exact h.o1
    ·obtain ⟨_,_,cs',g1,g2,g3⟩:=h.row.at' hW
     cases g1
     rw [q4] at g2; cases g2
     exact g3 j y (by show (A++[(i:Int)])[j]? = some y; rw [ai (ah hy)]; exact hy)
   have hl1:=r1.len
   have hm1:=MethU.ok.pre r1.pre hm
   obtain ⟨P1,aL,cL,w1,e74,p1,v1,rL,hone,_⟩:=s74 (O:=Q1) (b:=b) (w:=min w (O.length+2)) (n0:=O.length) hm1 ho (by omega) hcl hx (by omega) (by omega)
   have r2:=r1.more p1
   have hfewN:=nexts_few (m:=m) (i:=i) (x:=x)
   have hov:=hone.over
   obtain ⟨Q2,a2,c2,w2,r3,v2,k2⟩:=l80a (m:=m) (at':=i) (cL:=cL) hb (by omega) (nextsL m i x).length 0 w1 P1 (out,A) _ _ (by omega) r2 rL (fun i' o' e=>⟨by have:=hov i' o' e; omega,fun o2 e2=>by cases e2; have:=hov _ _ e; have:=ah q4'; omega⟩)
    (fun p hp=>by show 0≤p∧p < (out.length:Int); rw [hlen]; exact nexts_in (ah hx) hp) (by show out.length≤1000; omega) (by show A.length+_≤_; omega) v1
   rw [List.drop_zero] at r3
   have hlen2:((nextsL m i x).foldl come (out,A)).1.length=m.code.length:=by rw [comeL_len]; exact hlen
   have hw2:((nextsL m i x).foldl come (out,A)).2.length≤A.length+2:=by
    have:∀ (L:List Int) (s:List Bool × List Int),(L.foldl come s).2.length≤s.2.length+L.length:=by
     intro L
     induction L with
     | nil=>intro s; simp
     | cons p L ih =>
      intro s
      have h1:=ih (come s p)
      have h2:(come s p).2.length≤s.2.length+1:=by unfold come; split <;> simp
      simp only [b8,bk]
      omega
    have:=this (nextsL m i x) (out,A)
    simp only at this
    omega
   obtain ⟨Q3,a3,c3,w3,r4,v3,k3⟩:=l80b (at':=i) hm hb (by omega) hcl m.traps.length 0 w2 Q2 _ _ _ (by omega) r3 hlen2 (by omega) v2
   rw [List.drop_zero] at r4
   have hcnt:((trapsAt m i m.traps).foldl come ((nextsL m i x).foldl come (out,A))).1.count false+((trapsAt m i m.traps).foldl come ((nextsL m i x).foldl come (out,A))).2.length≤f:=by
    have:∀ (L:List Int) (s:List Bool × List Int),(∀ p ∈ L,p.toNat < s.1.length)→(L.foldl come s).1.count false+(L.foldl come s).2.length=s.1.count false+s.2.length:=by
     intro L
     induction L with
     | nil=>intro s _; rfl
     | cons p L ih =>
      intro s hs
      rw [b8,ih (come s p) fun r hr=>by rw [come_len]; exact hs r (az _ hr),come_cnt (hs p (by simp))]
    rw [this,this]
    ·simp only at hf ⊢
     simp only [a8,bk,bq,bg] at hf
     omega
    ·intro p hp
     have:=nexts_in (ah hx) hp
     show p.toNat < out.length
     omega
    ·intro p hp
     rw [hlen2]
     obtain ⟨t,_,_,_,t4,rfl⟩:=trapsAt_mem hp
     have:=inM_iff.1 t4
     omega
   obtain ⟨Q',out',a',c',w',i1,i2,i3,i4⟩:=ih w3 Q3 _ _ _ hcnt r4 hst v3
   refine ⟨Q',out',a',c',w',i1,i2,i3,fun k=>?_⟩
   have hih:=i4 k
   have hcm:m.cells=[.bool m.st,.str m.name,.str m.desc,.int .i64 m.stack,.int .i64 m.locals,.slice m.ca m.code.length m.cc,.slice m.ta m.traps.length m.tc,.slice m.xa m.maps.length m.xc]:=rfl
   simp only [fr80,ci,cj,eh,List.take_zero,b7] at hih k2 k3 ⊢
   rw [hcm] at hih k2 k3 e74 ⊢
   rw [bp]
   generalize ACode.loop code100080L2=LL at hih ⊢
   have hal:(0:Int) < (A.length:Int)+1:=by omega
   simp (disch:=omega) [code100080L2,o2,q4,hat,hQ1,e74,k2,k3,hih,hal]
end
theorem idsB:∀ l:List Bool,AVal.idsL (l.map AVal.bool)=[]
 | []=>rfl
 | x :: l=>by rw [dx]; simp [AVal.idsL,AVal.ids,idsB l]
theorem renB (g:Nat→Nat):∀ l:List Bool,AVal.renL g (l.map AVal.bool)=l.map AVal.bool
 | []=>rfl
 | x :: l=>by rw [dx]; simp [AVal.renL,AVal.ren,renB g l]
section
attribute [-simp] getElem?_pos getElem?_neg List.all_eq_true
attribute [local simp] gz gs nltT nltF iltT iltF ileT nleT eu
theorem s80 {m:MethU} (hm:m.ok O) (ho:∀ x ∈ m.code,0≤x.op∧x.op < 256) (hb:b≤O.length) (hT:m.traps.length≤900) (hcl:m.code.length≤1000) :
  ∃ r,IsR m r∧∀ w,xCall T 100080 [.agg m.cells] ⟨O,b,w⟩=some (.slice (some (O.length,0)) m.code.length (some m.code.length),⟨O++[.cells 1 (r.map AVal.bool)],b,w⟩):=by
 have hcm:m.cells=[.bool m.st,.str m.name,.str m.desc,.int .i64 m.stack,.int .i64 m.locals,.slice m.ca m.code.length m.cc,.slice m.ta m.traps.length m.tc,.slice m.xa m.maps.length m.xc]:=rfl
 have hri:RInv O (O++[.cells 1 ((List.replicate m.code.length false).map AVal.bool),.cells 1 [.slice (some (O.length,0)) m.code.length (some m.code.length)],.cells 1 [.slice none 0 (some 0)]]) (List.replicate m.code.length false,[]) none (some 0) :=
  ⟨Pre.app _ _,by rw [gd]; rfl,by rw [get_k,List.length_replicate]; rfl,by rw [get_k]; rfl,⟨fun h=>absurd rfl h⟩,.inl ⟨rfl,rfl⟩⟩
 rw [List.map_replicate] at hri
 by_cases hn:m.code.length=0
 ·have hk:=Mk.nil hn
  obtain ⟨Q',out,a',c',w',i1,i2,i3,i4⟩:=l80c hm ho hb hT hcl _ O.length _ _ _ _ (aj _) hri hk (aj _)
  have hf:=fun w=>finish_one (O:=O) (b:=b) (w:=w) (n:=m.code.length) (c:=some m.code.length) (W:=w') i1.o0 (idsB _) (fun g=>renB g _) (aj _) i3
  have o1:=i1.o1
  simp only [i2.1] at o1
  refine ⟨out,i2,fun w=>?_⟩
  have hf:=hf w
  simp only [fr80,eh,List.take_zero] at i4
  rw [hcm] at i4
  have hn1:¬ (0:Int) < m.code.length:=by omega
  have hn2:¬ 0 < m.code.length:=by omega
  simp (disch:=omega) [-finish,bf t100080,code100080,hcm,hn1,hn2,i4,o1,hf]
 ·have hn0:0 < m.code.length:=by omega
  have hk:=Mk.start hn0
  obtain ⟨Q1,a1,c1,w1,e1,r1,v1,_,_⟩:=s136 (p:=0) hri hb (by decide) (by simp; omega) (by simp; omega) (by simp) (aj O.length)
  obtain ⟨Q',out,a',c',w',i1,i2,i3,i4⟩:=l80c hm ho hb hT hcl _ w1 _ _ _ _ (aj _) r1 hk v1
  have hf:=fun w=>finish_one (O:=O) (b:=b) (w:=w) (n:=m.code.length) (c:=some m.code.length) (W:=w') i1.o0 (idsB _) (fun g=>renB g _) (aj _) i3
  have o1:=i1.o1
  simp only [i2.1] at o1
  refine ⟨out,i2,fun w=>?_⟩
  have hf:=hf w
  simp only [fr80,eh,List.take_zero] at i4
  rw [hcm] at i4
  simp (disch:=omega) [-finish,bf t100080,code100080,hcm,hn0,e1,i4,o1,hf]
end
end Go.Abs.AbsFlow

namespace Go.Abs.AbsFlow
open Go.Abs.AbsDesc Go.Abs.AbsHier
open Go.Abs.AbsOrd hiding T sub
variable {os O:List AObj} {b w:Nat}
theorem Acc.addI {O1 P:List AObj} {A:List Int} {v:AVal} (h:Acc 1 intC O1 A P v) (hb:b≤O1.length) (hA:A.length≤2000) (p:Int):∃ P' v',∃ nx:Nat→Nat,Acc 1 intC O1 (A++[p]) P' v'∧(∀ w m,m≤w→m≤O1.length→m≤nx w) ∧
  ∀ w,aAppend 1 8 ⟨P++[.cells 1 [.int .i64 p]],b,w⟩ v (.slice (some (P.length,0)) 1 (some 1))=some (v',⟨P',b,nx w⟩):=by
 obtain ⟨a,c,rfl,hr⟩:=h.row ea
 have hlo:∀ i o',a=some (i,o')→O1.length≤i:=fun i o' e=>by
  rcases h.val with ⟨_,h2⟩ | ⟨_,j,h2,h3,_⟩
  ·rw [e] at h2; cases h2
  ·rw [e] at h3; cases h3; exact h2
 obtain ⟨P',nx,e1,e2,e3,e4,e5⟩:=app_row (b:=b) hr (by
  rcases h.val with ⟨h1,h2⟩ | ⟨_,i,h2,h3,h4⟩
  ·injection h2 with h2; exact .inl ⟨h2,h1⟩
  ·injection h3 with h3 _ h5; exact .inr ⟨i,_,by omega,h3,h5,h4⟩) hA p
 refine ⟨P',_,nx,⟨fun j o hj=>e3 _ _ (h.pre _ _ hj) fun o' e=>by have:=hlo _ _ e; have:=ah hj; omega,.inr ⟨by simp,P.length+1,by have:=h.pre.len; omega,rfl,e2⟩⟩,fun w m h1 h2=>e5 w m h1 fun i o' e=>by have:=hlo _ _ e; omega,fun w=>?_⟩
 rw [e1 w]
 simp
def step81 (s:Bool × List Bool) (p:Int):Bool × List Bool:=(s.1 || !(s.2[p.toNat]?.getD false),s.2.set p.toNat true)
def succL (m:MethU) (i:Nat) (x:InsU):List Int:=nextsL m i x++trapsAt m i m.traps
def passI (m:MethU) (s:Bool × List Bool) (i:Nat):Bool × List Bool:=match m.code[i]? with
 | some x=>if s.2[i]? = some true then (succL m i x).foldl step81 s else s
 | none=>s
abbrev fr81 (n:Nat) (m:MethU) (g:Bool):Slots:=[(1,.var m.cells),(3,.val (.slice (some (n,0)) m.code.length (some m.code.length))),(4,.val (.bool g))]
section
attribute [-simp] getElem?_pos getElem?_neg List.all_eq_true
attribute [local simp] gz gs nltT nltF iltT iltF ileT nleT eu
theorem l81a {m:MethU} {Q:List AObj} {g:Bool} {i q0:Nat} (hm:m.ok Q) (hb:b≤Q.length) (hO:O.length≤Q.length) (hT:m.traps.length≤900) (hcl:m.code.length≤1000):∀ (j q w:Nat) (A:List Int) (P:List AObj) (v:AVal),q+j=m.traps.length→A.length≤100+q→O.length≤w→Acc 1 intC Q A P v →
  ∃ P' v',∃ W:Nat,Acc 1 intC Q (A++trapsAt m i (m.traps.drop q)) P' v'∧O.length≤W∧∀ (k:AExit→St→Option (AVal × Heap)),
  xK T (.loop code81L1) ⟨fr81 O.length m g++[(5,.val (.int .i64 i)),(6,.val v),(22,.val (.int .i64 m.code.length)),(23,.val (.int .i64 q0)),(35,.val (.slice m.ta m.traps.length m.tc)),(36,.val (.int .i64 m.traps.length)),(37,.val (.int .i64 q))],⟨P,b,w⟩⟩ (k:=⟨k⟩) =
   k (.exit 4) ⟨fr81 O.length m g++[(6,.val v'),(22,.val (.int .i64 m.code.length)),(23,.val (.int .i64 q0))],⟨P',b,W⟩⟩
 | 0,q,w,A,P,v,hq,hA,hw,h=>by
  refine ⟨P,v,w,by rw [e6 (by omega)]; simpa [trapsAt] using h,hw,fun k=>?_⟩
  rw [bp]
  simp (disch:=omega) [code81L1,fr81]
 | j+1,q,w,A,P,v,hq,hA,hw,h=>by
  have hrb:reachB=140737488351232:=rfl
  have hcm:m.cells=[.bool m.st,.str m.name,.str m.desc,.int .i64 m.stack,.int .i64 m.locals,.slice m.ca m.code.length m.cc,.slice m.ta m.traps.length m.tc,.slice m.xa m.maps.length m.xc]:=rfl
  obtain ⟨t,ht⟩:∃ t,m.traps[q]? = some t:=⟨_,ag (by omega)⟩
  have hm1:=MethU.ok.pre h.pre hm
  obtain ⟨i0,o,cs,ha,hi,hil,hcs,hv⟩:=row_at hm1.t ht
  have hct:t.cells=[.int .i64 t.lo,.int .i64 t.hi,.int .i64 t.at',.str t.cls]:=rfl
  rw [hct] at hv
  have h135:=fun h=>s135 (m:=m) (i:=t.at') (h:=h) (by omega)
  have e2:((q+1:Nat):Int)=(q:Int)+1:=by omega
  by_cases cc:t.lo≤i∧(i:Int) < t.hi∧inM m t.at'=true
  ·obtain ⟨c1,c2,c3⟩:=cc
   obtain ⟨P1,v1,nx,h1,hn1,e1⟩:=Acc.addI (b:=b) h hb (by omega) t.at'
   obtain ⟨P',v',W,i1,i2,i3⟩:=l81a (g:=g) (i:=i) (q0:=q0) hm hb hO hT hcl j (q+1) (nx w) _ P1 v1 (by omega) (by simp; omega) (hn1 w _ hw hO) h1
   refine ⟨P',v',W,?_,i2,fun k=>?_⟩
   ·have:trapsAt m i (m.traps.drop q)=t.at' :: trapsAt m i (m.traps.drop (q+1)):=by
     unfold trapsAt
     rw [gk ht,List.filter_cons,if_pos (decide_eq_true ⟨c1,c2,c3⟩),dx]
    rw [this]; simpa using i1
   ·have ih:=i3 k
    rw [e2] at ih
    rw [c3] at h135
    rw [ha] at ih hcm ⊢
    simp only [fr81,ci,cj] at ih ⊢
    rw [hcm] at h135 ih ⊢
    rw [bp]
    generalize ACode.loop code81L1=LL at ih ⊢
    simp (disch:=omega) [-aAppend,code81L1,hi,hv,h135,c1,c2,e1,ih]
  ·obtain ⟨P',v',W,i1,i2,i3⟩:=l81a (g:=g) (i:=i) (q0:=q0) hm hb hO hT hcl j (q+1) w A P v (by omega) (by omega) hw h
   refine ⟨P',v',W,?_,i2,fun k=>?_⟩
   ·have:trapsAt m i (m.traps.drop q)=trapsAt m i (m.traps.drop (q+1)):=by
     unfold trapsAt
     rw [gk ht,List.filter_cons,if_neg (by simpa using cc)]
    rw [this]; exact i1
   ·have ih:=i3 k
    rw [e2] at ih
    rw [ha] at ih hcm ⊢
    simp only [fr81,ci,cj] at ih ⊢
    rw [hcm] at h135 ih ⊢
    rw [bp]
    generalize ACode.loop code81L1=LL at ih ⊢
    by_cases c1:t.lo≤i
    ·by_cases c2:(i:Int) < t.hi
     ·have c3:inM m t.at'=false:=Bool.eq_false_iff.2 fun c3=>cc ⟨c1,c2,c3⟩
      rw [c3] at h135
      simp (disch:=omega) [-aAppend,code81L1,hi,hv,h135,c1,c2,ih]
     ·simp (disch:=omega) [-aAppend,code81L1,hi,hv,c1,c2,ih]
    ·simp (disch:=omega) [-aAppend,code81L1,hi,hv,c1,ih]
end
theorem pre_set {Q:List AObj} {x y:AObj} (h:Pre (O++[x]) Q):Pre (O++[y]) (Q.set O.length y):=fun i o hi=>by
 have hl:=h.len
 simp only [a8,bk,bq,bg] at hl
 by_cases e:i=O.length
 ·subst e
  rw [gd] at hi
  cases hi
  exact ed (by omega)
 ·have hil:=ah hi
  simp only [a8,bk,bq,bg] at hil
  rw [ai (by omega)] at hi
  rw [bj (by omega)]
  exact h _ _ (by rw [ai (by omega)]; exact hi)
theorem pre_here {Q:List AObj} {x:AObj} (h:Pre (O++[x]) Q):Q[O.length]? = some x:=h _ _ (by rw [gd]; rfl)
section
attribute [-simp] getElem?_pos getElem?_neg List.all_eq_true
attribute [local simp] gz gs nltT nltF iltT iltF ileT nleT eu
theorem l81b {m:MethU} {L:List Int} {aL:Option (Nat × Nat)} {cL:Option Nat} {q0:Nat} (hb:b≤O.length) (hL:L.length≤2000) (hcl:m.code.length≤1000):∀ (j q w:Nat) (Q:List AObj) (s:Bool × List Bool),q+j=L.length→Pre (O++[.cells 1 (s.2.map AVal.bool)]) Q→Row Q 1 intC L aL→(∀ i o,aL=some (i,o)→O.length < i)→(∀ p ∈ L,0≤p∧p < m.code.length)→s.2.length=m.code.length→O.length≤w →
  ∃ Q',∃ w':Nat,Pre (O++[.cells 1 (((L.drop q).foldl step81 s).2.map AVal.bool)]) Q'∧O.length≤w'∧∀ (k:AExit→St→Option (AVal × Heap)),
  xK T (.loop code81L0) ⟨fr81 O.length m s.1++[(22,.val (.int .i64 m.code.length)),(23,.val (.int .i64 q0)),(63,.val (.slice aL L.length cL)),(64,.val (.int .i64 L.length)),(65,.val (.int .i64 q))],⟨Q,b,w⟩⟩ (k:=⟨k⟩) =
   k (.exit 6) ⟨fr81 O.length m ((L.drop q).foldl step81 s).1++[(22,.val (.int .i64 m.code.length)),(23,.val (.int .i64 q0))],⟨Q',b,w'⟩⟩
 | 0,q,w,Q,s,hq,h,hR,hne,hp,hs,hw=>by
  refine ⟨Q,w,by rw [e6 (by omega)]; exact h,hw,fun k=>?_⟩
  rw [bp,e6 (by omega)]
  simp (disch:=omega) [code81L0,fr81]
 | j+1,q,w,Q,s,hq,h,hR,hne,hp,hs,hw=>by
  obtain ⟨g,out⟩:=s
  simp only at hs h
  obtain ⟨p,hx⟩:∃ p,L[q]? = some p:=⟨_,ag (by omega)⟩
  obtain ⟨i,o,cs,ha,hi,hv⟩:=int_at hR hx
  obtain ⟨p0,p1⟩:=hp p (aq hx)
  obtain ⟨k,rfl⟩:=dc p0
  have hk:k < out.length:=by omega
  have o0:=pre_here h
  have hne':=hne i o ha
  obtain ⟨y,hy⟩:∃ y,out[k]? = some y:=⟨_,ag hk⟩
  have hg:=bool_get hy
  have hsp:=splice_set2 hk
  have hset:=pre_set (y:=AObj.cells 1 ((out.set k true).map AVal.bool)) h
  have hR1:Row (Q.set O.length (AObj.cells 1 ((out.set k true).map AVal.bool))) 1 intC L aL:=⟨fun hL0=>by
   obtain ⟨b2,o2,cs2,h1,h2,h3⟩:=hR.at' hL0
   refine ⟨b2,o2,cs2,h1,?_,h3⟩
   have:=hne b2 o2 h1
   rw [bj (by omega)]; exact h2⟩
  have hst:step81 (g,out) k=(g || !y,out.set k true):=by unfold step81; simp [hy]
  obtain ⟨Q',w',i1,i2,i3⟩:=l81b (m:=m) (cL:=cL) (q0:=q0) hb hL hcl j (q+1) O.length _ (g || !y,out.set k true) (by omega) hset hR1 hne hp (by simpa using hs) (aj _)
  refine ⟨Q',w',by rw [gk hx,b8,hst]; exact i1,i2,fun kk=>?_⟩
  have ih:=i3 kk
  have e2:((q+1:Nat):Int)=(q:Int)+1:=by omega
  rw [e2] at ih
  rw [gk hx,b8,hst]
  rw [ha] at ih ⊢
  generalize ((L.drop (q+1)).foldl step81 (g || !y,out.set k true))=s' at ih ⊢
  simp only [fr81,ci,cj] at ih ⊢
  rw [bp]
  generalize ACode.loop code81L0=LL at ih ⊢
  have hki:(k:Int) < m.code.length:=p1
  simp only [List.map_set] at ih hsp
  cases g <;> cases y <;> simp only [Bool.or_true,Bool.or_false,Bool.not_true,Bool.not_false,Bool.true_or,Bool.false_or] at ih <;> simp (disch:=omega) [code81L0,hi,hv,o0,hg,hki,hsp,hs,ih]
end
theorem succ_in {m:MethU} {i:Nat} {x:InsU} (hi:i < m.code.length) {p:Int} (hp:p ∈ succL m i x):0≤p∧p < m.code.length:=by
 rcases bd.1 hp with h | h
 ·exact nexts_in hi h
 ·obtain ⟨t,_,_,_,t4,rfl⟩:=trapsAt_mem h
  exact inM_iff.1 t4
theorem step81_len:∀ (L:List Int) (s:Bool × List Bool),(L.foldl step81 s).2.length=s.2.length
 | [],_=>rfl
 | p :: L,s=>by
  rw [b8,step81_len L]
  simp [step81]
theorem passI_len {m:MethU} (s:Bool × List Bool) (i:Nat):(passI m s i).2.length=s.2.length:=by
 unfold passI
 split
 ·split
  ·exact step81_len _ _
  ·rfl
 ·rfl
section
attribute [-simp] getElem?_pos getElem?_neg List.all_eq_true
attribute [local simp] gz gs nltT nltF iltT iltF ileT nleT eu
theorem l81c {m:MethU} (hm:m.ok O) (ho:∀ x ∈ m.code,0≤x.op∧x.op < 256) (hb:b≤O.length) (hT:m.traps.length≤900) (hcl:m.code.length≤1000):∀ (j q w:Nat) (Q:List AObj) (s:Bool × List Bool),q+j=m.code.length→Pre (O++[.cells 1 (s.2.map AVal.bool)]) Q→s.2.length=m.code.length→O.length≤w →
  ∃ Q',∃ w':Nat,Pre (O++[.cells 1 (((List.range' q j).foldl (passI m) s).2.map AVal.bool)]) Q'∧O.length≤w'∧∀ (k:AExit→St→Option (AVal × Heap)),
  xK T (.loop code81L2) ⟨fr81 O.length m s.1++[(22,.val (.int .i64 m.code.length)),(23,.val (.int .i64 q))],⟨Q,b,w⟩⟩ (k:=⟨k⟩) =
   k (.exit 2) ⟨fr81 O.length m ((List.range' q j).foldl (passI m) s).1,⟨Q',b,w'⟩⟩
 | 0,q,w,Q,s,hq,h,hs,hw=>by
  refine ⟨Q,w,h,hw,fun k=>?_⟩
  rw [bp]
  simp (disch:=omega) [code81L2,fr81]
 | j+1,q,w,Q,s,hq,h,hs,hw=>by
  obtain ⟨g,out⟩:=s
  simp only at hs h
  have hqo:q < out.length:=by omega
  have hcm:m.cells=[.bool m.st,.str m.name,.str m.desc,.int .i64 m.stack,.int .i64 m.locals,.slice m.ca m.code.length m.cc,.slice m.ta m.traps.length m.tc,.slice m.xa m.maps.length m.xc]:=rfl
  obtain ⟨x,hx⟩:∃ x,m.code[q]? = some x:=⟨_,ag (by omega)⟩
  obtain ⟨y,hy⟩:∃ y,out[q]? = some y:=⟨_,ag hqo⟩
  have hg:=bool_get hy
  have o0:=pre_here h
  have e2:((q+1:Nat):Int)=(q:Int)+1:=by omega
  have hqi:(q:Int) < m.code.length:=by omega
  rw [List.range'_succ,b8]
  cases y with
  | false =>
   have hst:passI m (g,out) q=(g,out):=by unfold passI; rw [hx]; simp [hy]
   obtain ⟨Q',w',i1,i2,i3⟩:=l81c hm ho hb hT hcl j (q+1) w Q (g,out) (by omega) h hs hw
   rw [hst]
   refine ⟨Q',w',i1,i2,fun k=>?_⟩
   have ih:=i3 k
   rw [e2] at ih
   generalize ((List.range' (q+1) j).foldl (passI m) (g,out))=s' at ih ⊢
   simp only [fr81,ci,cj] at ih ⊢
   rw [bp]
   generalize ACode.loop code81L2=LL at ih ⊢
   simp (disch:=omega) [code81L2,hqi,o0,hg,ih]
  | true =>
   have hst:passI m (g,out) q=(succL m q x).foldl step81 (g,out):=by unfold passI; rw [hx]; simp [hy]
   have hOQ:Pre O Q:=(Pre.app _ _).trans h
   have hl:=h.len
   simp only [a8,bk,bq,bg] at hl
   have hmq:=MethU.ok.pre hOQ hm
   have h84:=fun w=>s84 (b:=b) (w:=w) hmq ho (by omega) hcl hx
   have hfewN:=nexts_few (m:=m) (i:=q) (x:=x)
   have hacc:Acc 1 intC Q (nextsL m q x) (newO 1 intC Q (nextsL m q x)) (newV Q.length (nextsL m q x)):=Acc.new (Pre.refl Q)
   obtain ⟨P1,v1,W1,h1,hW1,k1⟩:=l81a (O:=O) (b:=b) (g:=g) (i:=q) (q0:=q) hmq (by omega) (by omega) hT hcl m.traps.length 0 w _ _ _ (by omega) (by omega) hw hacc
   rw [List.drop_zero] at h1
   obtain ⟨aL,cL,hv1,hR⟩:=h1.row ea
   have hLo:∀ i o,aL=some (i,o)→O.length < i:=fun i o e=>by
    rcases h1.val with ⟨_,h2⟩ | ⟨_,i2,h2,h3,_⟩
    ·rw [hv1,e] at h2; cases h2
    ·rw [hv1,e] at h3; cases h3; omega
   have hTl:=trapsAt_few (m:=m) (i:=q) (L:=m.traps)
   have hsl:(succL m q x).length≤2000:=by unfold succL; rw [a8]; omega
   have hp1:Pre (O++[.cells 1 (out.map AVal.bool)]) P1:=h.trans h1.pre
   obtain ⟨P2,w2,h2,hw2,k2⟩:=l81b (b:=b) (m:=m) (cL:=cL) (q0:=q) (L:=succL m q x) hb hsl hcl (succL m q x).length 0 W1 P1 (g,out) (by omega) hp1 hR hLo (fun p hp=>succ_in (by omega) hp) hs hW1
   rw [List.drop_zero] at h2 k2
   have hlen2:((succL m q x).foldl step81 (g,out)).2.length=m.code.length:=by rw [step81_len]; exact hs
   obtain ⟨Q',w',i1,i2,i3⟩:=l81c hm ho hb hT hcl j (q+1) w2 P2 _ (by omega) h2 hlen2 hw2
   rw [hst]
   refine ⟨Q',w',i1,i2,fun k=>?_⟩
   have ih:=i3 k
   rw [e2] at ih
   rw [hv1] at k1
   have hsu:(nextsL m q x++trapsAt m q m.traps).length=(succL m q x).length:=rfl
   rw [hsu] at k1
   generalize hs1:(succL m q x).foldl step81 (g,out)=s1 at *
   generalize ((List.range' (q+1) j).foldl (passI m) s1)=s' at ih ⊢
   simp only [fr81,ci,cj,b7] at ih k1 k2 ⊢
   rw [hcm] at h84 k1 k2 ih ⊢
   rw [bp]
   generalize ACode.loop code81L2=LL at ih ⊢
   simp (disch:=omega) [code81L2,hqi,o0,hg,h84,k1,k2,ih]
end
theorem step81_keep {L:List Int}:∀ {s:Bool × List Bool},s.1=true→(L.foldl step81 s).1=true:=by
 induction L with
 | nil=>exact fun h=>h
 | cons p L ih=>exact fun {s} h=>ih (by unfold step81; rw [h]; rfl)
theorem step81_mono {L:List Int}:∀ {s:Bool × List Bool} {k:Nat},s.2[k]? = some true→(L.foldl step81 s).2[k]? = some true:=by
 induction L with
 | nil=>exact fun h=>h
 | cons p L ih=>exact fun {s k} h=>ih (by
   unfold step81
   simp only
   rw [bv]
   split
   ·rw [if_pos (by rename_i e; have:=ah h; omega)]
   ·exact h)
theorem step81_none {L:List Int}:∀ {s:Bool × List Bool},(∀ p ∈ L,p.toNat < s.2.length)→(L.foldl step81 s).1=false→(L.foldl step81 s)=s∧∀ p ∈ L,s.2[p.toNat]? = some true:=by
 induction L with
 | nil=>exact fun _ h=>⟨rfl,fun p hp=>by cases hp⟩
 | cons p L ih =>
  intro s hL h
  rw [b8] at h ⊢
  have h1:(step81 s p).1=false:=by
   cases e:(step81 s p).1 with
   | false=>rfl
   | true=>rw [step81_keep e] at h; exact h
  have hp:=hL p (by simp)
  unfold step81 at h1
  simp only [Bool.or_eq_false_iff,Bool.not_eq_false'] at h1
  obtain ⟨g1,g2⟩:=h1
  rw [ag hp] at g2
  simp only [dl] at g2
  have hs:step81 s p=s:=by
   obtain ⟨g,out⟩:=s
   unfold step81
   simp only at g1 g2 hp ⊢
   rw [ag hp,g1,g2]
   simp only [dl,Bool.not_true,Bool.or_self,Prod.mk.injEq,true_and]
   apply fp
   intro k
   rw [bv]
   split
   ·rename_i e
    rw [← e]
    exact ((ag hp).trans (congrArg some g2)).symm
   ·rfl
  rw [hs] at h ⊢
  obtain ⟨k1,k2⟩:=ih (fun q hq=>hL q (az _ hq)) h
  refine ⟨k1,fun q hq=>?_⟩
  rcases ce.1 hq with rfl | hq
  ·rw [ag hp,g2]
  ·exact k2 q hq
theorem step81_cnt {L:List Int}:∀ {s:Bool × List Bool},(∀ p ∈ L,p.toNat < s.2.length)→(L.foldl step81 s).2.count false≤s.2.count false∧((L.foldl step81 s).1=true→s.1=true∨(L.foldl step81 s).2.count false < s.2.count false):=by
 induction L with
 | nil=>exact fun _=>⟨aj _,fun h=>.inl h⟩
 | cons p L ih =>
  intro s hL
  rw [b8]
  have hp:=hL p (by simp)
  obtain ⟨h1,h2⟩:=ih (s:=step81 s p) fun q hq=>by
   have:=hL q (az _ hq)
   simpa [step81] using this
  have hc:(step81 s p).2.count false=s.2.count false - (if s.2[p.toNat] == false then 1 else 0):=by
   unfold step81
   simp only
   rw [List.count_set hp]
   simp
  have hg:(step81 s p).1=(s.1 || !s.2[p.toNat]):=by
   unfold step81
   simp only
   rw [ag hp]
   rfl
  cases e:s.2[p.toNat] with
  | true =>
   rw [e] at hc hg
   simp at hc hg
   rw [hc] at h1 h2
   rw [hg] at h2
   exact ⟨h1,h2⟩
  | false =>
   have hpos:0 < s.2.count false:=List.count_pos_iff.2 (by rw [← e]; exact List.getElem_mem hp)
   rw [e] at hc hg
   simp at hc hg
   exact ⟨by omega,fun _=>.inr (by omega)⟩
structure MkR (m:MethU) (out:List Bool):Prop where
 len:out.length=m.code.length
 rch:∀ k:Nat,out[k]? = some true→Rch m k
 z:0 < m.code.length→out[0]? = some true
theorem MkR.steps {m:MethU} {L:List Int}:∀ {s:Bool × List Bool},MkR m s.2→(∀ p ∈ L,Rch m p.toNat)→MkR m (L.foldl step81 s).2:=by
 induction L with
 | nil=>exact fun h _=>h
 | cons p L ih =>
  intro s h hL
  refine ih ⟨by simpa [step81] using h.len,fun k hk=>?_,fun hz=>?_⟩ fun q hq=>hL q (az _ hq)
  ·unfold step81 at hk
   simp only at hk
   rw [bv] at hk
   split at hk
   ·rename_i e; rw [← e]; exact hL p (by simp)
   ·exact h.rch k hk
  ·exact step81_mono (L:=[p]) (h.z hz)
theorem succ_rch {m:MethU} {i:Nat} {x:InsU} (hx:m.code[i]? = some x) (h:Rch m i) {p:Int} (hp:p ∈ succL m i x):Rch m p.toNat:=by
 rcases bd.1 hp with hp | hp
 ·exact .next i x p h hx hp
 ·obtain ⟨t,t1,t2,t3,t4,rfl⟩:=trapsAt_mem hp
  exact .trap i t h t1 t2 t3 t4
theorem MkR.pass {m:MethU} {s:Bool × List Bool} {i:Nat} (h:MkR m s.2):MkR m (passI m s i).2:=by
 unfold passI
 split
 ·rename_i x hx
  split
  ·rename_i hi
   exact h.steps fun p hp=>succ_rch hx (h.rch i hi) hp
  ·exact h
 ·exact h
theorem pass_bound {m:MethU} {s:Bool × List Bool} {i:Nat} {x:InsU} (hs:s.2.length=m.code.length) (hx:m.code[i]? = some x):∀ p ∈ succL m i x,p.toNat < s.2.length:=fun p hp=>by
 have:=succ_in (ah hx) hp
 omega
theorem pass_none {m:MethU}:∀ (j q:Nat) (s:Bool × List Bool),s.2.length=m.code.length→((List.range' q j).foldl (passI m) s).1=false→(List.range' q j).foldl (passI m) s=s∧∀ i x,q≤i→i < q+j→m.code[i]? = some x→s.2[i]? = some true→∀ p ∈ succL m i x,s.2[p.toNat]? = some true
 | 0,q,s,hs,h=>⟨rfl,fun i x h1 h2=>by omega⟩
 | j+1,q,s,hs,h=>by
  rw [List.range'_succ,b8] at h ⊢
  obtain ⟨k1,k2⟩:=pass_none j (q+1) (passI m s q) (by rw [passI_len]; exact hs) h
  have h1:(passI m s q).1=false:=by rw [k1] at h; exact h
  have hp:passI m s q=s∧∀ x,m.code[q]? = some x→s.2[q]? = some true→∀ p ∈ succL m q x,s.2[p.toNat]? = some true:=by
   unfold passI at h1 ⊢
   cases hx:m.code[q]? with
   | none=>exact ⟨rfl,fun x h=>by cases h⟩
   | some x =>
    rw [hx] at h1
    simp only at h1 ⊢
    by_cases hq:s.2[q]? = some true
    ·rw [if_pos hq] at h1 ⊢
     obtain ⟨g1,g2⟩:=step81_none (pass_bound hs hx) h1
     exact ⟨g1,fun y hy _=>by cases hy; exact g2⟩
    ·rw [if_neg hq]
     exact ⟨rfl,fun y hy h=>absurd h hq⟩
  rw [hp.1] at k1 k2
  refine ⟨by rw [hp.1]; exact k1,fun i x h3 h4 hx hi=>?_⟩
  rcases am q i with h5 | h5
  ·exact k2 i x h5 (by omega) hx hi
  ·have:i=q:=by omega
   subst this
   exact hp.2 x hx hi
theorem pass_cnt {m:MethU}:∀ (j q:Nat) (s:Bool × List Bool),s.2.length=m.code.length→((List.range' q j).foldl (passI m) s).2.count false≤s.2.count false∧(((List.range' q j).foldl (passI m) s).1=true→s.1=true∨((List.range' q j).foldl (passI m) s).2.count false < s.2.count false)
 | 0,q,s,hs=>⟨aj _,fun h=>.inl h⟩
 | j+1,q,s,hs=>by
  rw [List.range'_succ,b8]
  obtain ⟨h1,h2⟩:=pass_cnt j (q+1) (passI m s q) (by rw [passI_len]; exact hs)
  have h3:(passI m s q).2.count false≤s.2.count false∧((passI m s q).1=true→s.1=true∨(passI m s q).2.count false < s.2.count false):=by
   unfold passI
   cases hx:m.code[q]? with
   | none=>exact ⟨aj _,fun h=>.inl h⟩
   | some x =>
    simp only
    by_cases hq:s.2[q]? = some true
    ·rw [if_pos hq]; exact step81_cnt (pass_bound hs hx)
    ·rw [if_neg hq]; exact ⟨aj _,fun h=>.inl h⟩
  refine ⟨by omega,fun h=>?_⟩
  rcases h2 h with h4 | h4
  ·rcases h3.2 h4 with h5 | h5
   ·exact .inl h5
   ·exact .inr (by omega)
  ·exact .inr (by omega)
theorem MkR.passL {m:MethU}:∀ (L:List Nat) (s:Bool × List Bool),MkR m s.2→MkR m (L.foldl (passI m) s).2
 | [],_,h=>h
 | i :: L,s,h=>by rw [b8]; exact MkR.passL L _ h.pass
section
attribute [-simp] getElem?_pos getElem?_neg List.all_eq_true
attribute [local simp] gz gs nltT nltF iltT iltF ileT nleT eu
theorem l81d {m:MethU} (hm:m.ok O) (ho:∀ x ∈ m.code,0≤x.op∧x.op < 256) (hb:b≤O.length) (hT:m.traps.length≤900) (hcl:m.code.length≤1000):∀ (f w:Nat) (Q:List AObj) (out:List Bool),out.count false < f→Pre (O++[.cells 1 (out.map AVal.bool)]) Q→MkR m out→O.length≤w →
  ∃ Q' r,∃ w':Nat,Pre (O++[.cells 1 (r.map AVal.bool)]) Q'∧IsR m r∧O.length≤w'∧∀ (k:AExit→St→Option (AVal × Heap)),
  xK T (.loop code81L3) ⟨fr81 O.length m true,⟨Q,b,w⟩⟩ (k:=⟨k⟩)=k (.exit 0) ⟨[(3,.val (.slice (some (O.length,0)) m.code.length (some m.code.length)))],⟨Q',b,w'⟩⟩:=by
 intro f
 induction f with
 | zero=>intro w Q out h; omega
 | succ f ih =>
  intro w Q out hf h hk hw
  obtain ⟨P,w1,h1,hw1,k1⟩:=l81c hm ho hb hT hcl m.code.length 0 w Q (false,out) (by omega) h hk.len hw
  have hk1:=MkR.passL (List.range' 0 m.code.length) (false,out) hk
  have hc:=pass_cnt m.code.length 0 (false,out) hk.len
  have hn:=pass_none m.code.length 0 (false,out) hk.len
  generalize hs:(List.range' 0 m.code.length).foldl (passI m) (false,out)=s at *
  obtain ⟨g,out'⟩:=s
  simp only at h1 hk1 hc hn
  cases g with
  | true =>
   have hlt:out'.count false < out.count false:=by
    rcases hc.2 rfl with h | h
    ·cases h
    ·exact h
   obtain ⟨Q',r,w',i1,i2,i3,i4⟩:=ih w1 P out' (by omega) h1 hk1 hw1
   refine ⟨Q',r,w',i1,i2,i3,fun k=>?_⟩
   have hih:=i4 k
   simp only [fr81,b7,ci,cj] at hih k1 ⊢
   rw [bp]
   generalize ACode.loop code81L3=LL at hih ⊢
   simp (disch:=omega) [code81L3,k1,hih]
  | false =>
   obtain ⟨n1,n2⟩:=hn rfl
   injection n1 with _ n1
   subst n1
   have hR:IsR m out':=isR_of hk1.len hk1.rch hk1.z fun i x hi hx=>by
    have:=n2 i x (el _) (by have:=ah hx; omega) hx hi
    refine ⟨fun p hp=>this p (co _ hp),fun t t1 t2 t3 t4=>this _ (dj _ ?_)⟩
    exact List.mem_map.2 ⟨t,db.2 ⟨t1,decide_eq_true ⟨t2,t3,t4⟩⟩,rfl⟩
   refine ⟨P,out',w1,h1,hR,hw1,fun k=>?_⟩
   simp only [fr81,b7,ci,cj] at k1 ⊢
   rw [bp]
   have hend:∀ (k:AExit→St→Option (AVal × Heap)),xK T (.loop code81L3) ⟨[(1,.var m.cells),(3,.val (.slice (some (O.length,0)) m.code.length (some m.code.length))),(4,.val (.bool false))],⟨P,b,w1⟩⟩ (k:=⟨k⟩)=k (.exit 0) ⟨[(3,.val (.slice (some (O.length,0)) m.code.length (some m.code.length)))],⟨P,b,w1⟩⟩:=fun k=>by
    rw [bp]
    simp (disch:=omega) [code81L3]
   generalize ACode.loop code81L3=LL at hend ⊢
   simp (disch:=omega) [code81L3,k1,hend]
theorem s81 {m:MethU} (hm:m.ok O) (ho:∀ x ∈ m.code,0≤x.op∧x.op < 256) (hb:b≤O.length) (hT:m.traps.length≤900) (hcl:m.code.length≤1000) :
  ∃ r,IsR m r∧∀ w,xCall T 81 [.agg m.cells] ⟨O,b,w⟩=some (.slice (some (O.length,0)) m.code.length (some m.code.length),⟨O++[.cells 1 (r.map AVal.bool)],b,w⟩):=by
 have hcm:m.cells=[.bool m.st,.str m.name,.str m.desc,.int .i64 m.stack,.int .i64 m.locals,.slice m.ca m.code.length m.cc,.slice m.ta m.traps.length m.tc,.slice m.xa m.maps.length m.xc]:=rfl
 by_cases hn:m.code.length=0
 ·have hk:MkR m (List.replicate m.code.length false):=⟨by simp,fun k hk=>by rw [hn] at hk; simp at hk,fun h=>by omega⟩
  obtain ⟨Q',r,w',i1,i2,i3,i4⟩:=l81d hm ho hb hT hcl _ O.length (O++[.cells 1 ((List.replicate m.code.length false).map AVal.bool)]) (List.replicate m.code.length false) (Nat.lt_succ_self _) (Pre.refl _) hk (aj _)
  have hf:=fun w=>finish_one (O:=O) (b:=b) (w:=w) (n:=m.code.length) (c:=some m.code.length) (W:=w') (pre_here i1) (idsB _) (fun g=>renB g _) (aj _) i3
  refine ⟨r,i2,fun w=>?_⟩
  have hf:=hf w
  have hn1:¬ (0:Int) < m.code.length:=by omega
  have hn2:¬ 0 < m.code.length:=by omega
  simp only [fr81,List.map_replicate] at i4
  rw [hcm] at i4
  simp (disch:=omega) [-finish,bf t81,code81,hcm,hn1,hn2,i4,hf]
 ·have hn0:0 < m.code.length:=by omega
  have hsp:=splice_set2 (l:=List.replicate m.code.length false) (i:=0) (by simpa using hn0)
  have hk:MkR m ((List.replicate m.code.length false).set 0 true):=⟨by simp,fun k hk=>by
   rw [bv] at hk
   split at hk
   ·rename_i e; rw [← e]; exact .zero hn0
   ·rw [fq] at hk
    split at hk <;> simp at hk,fun _=>ed (by simpa using hn0)⟩
  obtain ⟨Q',r,w',i1,i2,i3,i4⟩:=l81d hm ho hb hT hcl _ O.length (O++[.cells 1 (((List.replicate m.code.length false).set 0 true).map AVal.bool)]) ((List.replicate m.code.length false).set 0 true) (Nat.lt_succ_self _) (Pre.refl _) hk (aj _)
  have hf:=fun w=>finish_one (O:=O) (b:=b) (w:=w) (n:=m.code.length) (c:=some m.code.length) (W:=w') (pre_here i1) (idsB _) (fun g=>renB g _) (aj _) i3
  refine ⟨r,i2,fun w=>?_⟩
  have hf:=hf w
  have hXl:((List.replicate m.code.length false).map AVal.bool).length=m.code.length:=by simp
  generalize ((List.replicate m.code.length false).set 0 true).map AVal.bool=Y at *
  simp only [fr81] at i4
  rw [hcm] at i4
  rw [List.map_replicate] at hsp hXl
  simp only [List.take_zero,cj,bg,List.drop_replicate] at hsp
  simp (disch:=omega) [-finish,bf t81,code81,hcm,hn0,hXl,hsp,i4,hf]
end
end Go.Abs.AbsFlow

namespace Go.Abs.AbsFlow
open Go.Abs.AbsDesc Go.Abs.AbsHier
open Go.Abs.AbsOrd hiding T sub
variable {os O:List AObj} {b w:Nat}
theorem lowF {n:Nat} {a:Option (Nat × Nat)} {l:Nat} {c:Option Nat} (hu:under n a):((AVal.slice a l c).ids.all fun i=>decide (i < n))=true:=by
 rw [al]; exact fun i hi=>decide_eq_true (ids_slice hu i hi)
section
attribute [-simp] getElem?_pos getElem?_neg List.all_eq_true
attribute [local simp] gz gs nltT nltF iltT iltF ileT nleT eu
theorem l79a {L:List Int} {a a':Option (Nat × Nat)} {c c':Option Nat} {at':Int} {x3:List AVal} (h1:Row O 1 intC L a) (h2:Row O 1 intC L a') (hn:L.length≤1000):∀ (j q w:Nat),q+j=L.length→∀ (k:AExit→St→Option (AVal × Heap)),
  xK T (.loop code79L1) ⟨[(1,.val (.int .i64 at')),(3,.var x3),(7,.val (.slice a L.length c)),(8,.val (.slice a' L.length c')),(41,.val (.int .i64 L.length)),(42,.val (.int .i64 q))],⟨O,b,w⟩⟩ (k:=⟨k⟩) =
   k (.exit 0) ⟨[(1,.val (.int .i64 at')),(3,.var x3)],⟨O,b,w⟩⟩
 | 0,q,w,hq,k=>by
  rw [bp]
  simp (disch:=omega) [code79L1]
 | j+1,q,w,hq,k=>by
  obtain ⟨x,hx⟩:∃ x,L[q]? = some x:=⟨_,ag (by omega)⟩
  obtain ⟨p,o,cs,rfl,hp,hv⟩:=int_at h1 hx
  obtain ⟨p',o',cs',rfl,hp',hv'⟩:=int_at h2 hx
  have ih:=l79a (c:=c) (c':=c') (at':=at') (x3:=x3) h1 h2 hn j (q+1) w (by omega) k
  have e2:((q+1:Nat):Int)=(q:Int)+1:=by omega
  rw [e2] at ih
  rw [bp]
  generalize ACode.loop code79L1=LL at ih ⊢
  simp (disch:=omega) [code79L1,hp,hv,hp',hv',ih]
theorem l79b {r:List Bool} {i i' n:Nat} (h1:O[i]? = some (.cells 1 (r.map AVal.bool))) (h2:O[i']? = some (.cells 1 (r.map AVal.bool))) (hn:n=r.length) (hn2:n≤1000):∀ (j q w:Nat),q+j=n→∀ (k:AExit→St→Option (AVal × Heap)),
  xK T (.loop code79L0) ⟨[(14,.val (.slice (some (i,0)) n (some n))),(15,.val (.slice (some (i',0)) n (some n))),(107,.val (.int .i64 n)),(108,.val (.int .i64 q))],⟨O,b,w⟩⟩ (k:=⟨k⟩) =
   k (.exit 2) ⟨[],⟨O,b,w⟩⟩
 | 0,q,w,hq,k=>by
  rw [bp]
  simp (disch:=omega) [code79L0]
 | j+1,q,w,hq,k=>by
  obtain ⟨x,hx⟩:∃ x,r[q]? = some x:=⟨_,ag (by omega)⟩
  have hv:=bool_get hx
  have ih:=l79b h1 h2 hn hn2 j (q+1) w (by omega) k
  have e2:((q+1:Nat):Int)=(q:Int)+1:=by omega
  rw [e2] at ih
  rw [bp]
  generalize ACode.loop code79L0=LL at ih ⊢
  simp (disch:=omega) [code79L0,h1,hv,h2,ih]
theorem s79 {m:MethU} {at' op:Int} (hm:m.ok O) (hf:m.fits) (ho:∀ x ∈ m.code,0≤x.op∧x.op < 256) (hb:b≤O.length):xCall T 79 [.agg m.cells,.int .i64 at',.int .u8 op] ⟨O,b,w⟩=some (.bool true,⟨O,b,w⟩):=by
 have hcm:m.cells=[.bool m.st,.str m.name,.str m.desc,.int .i64 m.stack,.int .i64 m.locals,.slice m.ca m.code.length m.cc,.slice m.ta m.traps.length m.tc,.slice m.xa m.maps.length m.xc]:=rfl
 have h77:=fun h=>s77 (h:=h)
 obtain ⟨r,h75,hr⟩:=s75 hm hf hb O.length
 cases r with
 | false =>
  rw [hcm] at h75
  simp (disch:=omega) [bf t79,code79,hcm,h77,h75]
 | true =>
  obtain ⟨n1,n2⟩:=hr rfl
  have h73:=fun h=>s73 (c:=op) (h:=h)
  have h83:=fun h=>s83 (c:=op) (h:=h)
  obtain ⟨P1,a1,c1,P2,a2,c2,L,hL,hP,g1,g2,r1,r2⟩:∃ P1 a1 c1 P2 a2 c2,∃ L:List Int,L.length≤1000∧Pre O P2 ∧
    xCall T 100074 [.agg m.cells,.int .i64 at'] ⟨O,b,O.length⟩=some (.slice a1 L.length c1,⟨P1,b,O.length⟩)∧(∀ w,xCall T 84 [.agg m.cells,.int .i64 at'] ⟨P1,b,w⟩=some (.slice a2 L.length c2,⟨P2,b,w⟩))∧Row P2 1 intC L a1∧Row P2 1 intC L a2:=by
   cases hin:inM m at' with
   | false=>exact ⟨O,none,some 0,O,none,some 0,[],by simp,Pre.refl _,s74_none (by omega) hin,fun w=>s84_none (by omega) hin,⟨fun h=>absurd rfl h⟩,⟨fun h=>absurd rfl h⟩⟩
   | true =>
    obtain ⟨i0,i1⟩:=inM_iff.1 hin
    obtain ⟨i,rfl⟩:=dc i0
    obtain ⟨x,hx⟩:∃ x,m.code[i]? = some x:=⟨_,ag (by omega)⟩
    obtain ⟨P1,a1,c1,w1,e1,p1,_,r1,_,rfl⟩:=s74 (b:=b) (w:=O.length) (n0:=O.length) hm ho hb (by omega) hx (aj _) (aj _)
    have h84:=fun w=>s84 (b:=b) (w:=w) (MethU.ok.pre p1 hm) ho (by have:=p1.len; omega) (by omega) hx
    have hfew:=nexts_few (m:=m) (i:=i) (x:=x)
    refine ⟨P1,a1,c1,newO 1 intC P1 (nextsL m i x),newA P1.length (nextsL m i x),newC (nextsL m i x),nextsL m i x,by omega,p1.trans newO_pre,e1,fun w=>?_,newO_pre.row r1,new_row ea⟩
    rw [h84,newV_eq]
  have hl2:=hP.len
  have hm2:=MethU.ok.pre hP hm
  have h71:=fun w=>s71m (b:=b) (i:=at') hm2 hf (by omega) w
  have h82:=fun w=>s82 (b:=b) (i:=at') hm2 hf (by omega) w
  obtain ⟨ra,A1,A2⟩:=s80 (b:=b) hm2 ho (by omega) (by omega) (by omega)
  have hp3:=Pre.app P2 [AObj.cells 1 (ra.map AVal.bool)]
  have hm3:=MethU.ok.pre hp3 hm2
  obtain ⟨rb,B1,B2⟩:=s81 (b:=b) hm3 ho (by have:=hp3.len; omega) (by omega) (by omega)
  have hab:=A1.same B1
  subst hab
  have kA:=fun w k=>l79a (b:=b) (c:=c1) (c':=c2) (at':=at') (x3:=m.cells) r1 r2 hL L.length 0 w (by omega) k
  have kB:=fun w k=>l79b (O:=P2++[AObj.cells 1 (ra.map AVal.bool),AObj.cells 1 (ra.map AVal.bool)]) (b:=b) (r:=ra) (i:=P2.length) (i':=(P2++[AObj.cells 1 (ra.map AVal.bool)]).length) (n:=m.code.length)
   (by rw [gd]; rfl) (by rw [a8,get_k]; rfl) A1.1.symm (by omega) m.code.length 0 w (by omega) k
  have hbl:(P2++[AObj.cells 1 (ra.map AVal.bool)]).length=P2.length+1:=by simp
  rw [hbl] at kB B2
  simp only [b7] at kA kB
  have u1:=dz (n0:=O.length) (m:=0) (ds:=[]) (n:=m.code.length) (c:=m.cc) hm.cu
  have z1:=fun n hn=>lowF (l:=m.code.length) (c:=m.cc) (under.le (m:=n) hm.cu hn)
  have z2:=fun n hn=>lowF (l:=m.traps.length) (c:=m.tc) (under.le (m:=n) hm.tu hn)
  have z3:=fun n hn=>lowF (l:=m.maps.length) (c:=m.xc) (under.le (m:=n) hm.xu hn)
  have v1:=fun q (hn:O.length≤q) mm ds=>dz (n0:=q) (m:=mm) (ds:=ds) (n:=m.code.length) (c:=m.cc) (hm.cu.le hn)
  have v2:=fun q (hn:O.length≤q) mm ds=>dz (n0:=q) (m:=mm) (ds:=ds) (n:=m.traps.length) (c:=m.tc) (hm.tu.le hn)
  have v3:=fun q (hn:O.length≤q) mm ds=>dz (n0:=q) (m:=mm) (ds:=ds) (n:=m.maps.length) (c:=m.xc) (hm.xu.le hn)
  rw [hcm] at h75 g1 g2 h71 h82 A2 B2 kA
  have hle:=aj O.length
  have hqq:=Classical.propComplete (P1.length=O.length∧((AVal.slice a1 L.length c1).ids.all fun i=>decide (i < O.length))=true)
  cases e:findM m at' with
  | none =>
   rw [e] at h71 h82
   simp only [mapV] at h71 h82
   rcases hqq with hqq | hqq <;> simp (maxSteps:=3000000) (disch:=omega) [hqq,-sget,sgetN,sgetH,sgetT,d0,dy,v1,v2,v3,z1,z2,z3,hle,hl2,bf t79,code79,hcm,h77,h75,g1,g2,h73,h83,kA,h71,h82,A2,B2,kB]
  | some x =>
   rw [e] at h71 h82
   simp only [mapV] at h71 h82
   have hcx:x.cells=[.int .i64 x.at',.slice x.la x.locals.length x.lc,.slice x.sa x.stack.length x.sc]:=rfl
   rw [hcx] at h71 h82
   rcases hqq with hqq | hqq <;> simp (maxSteps:=3000000) (disch:=omega) [hqq,-sget,sgetN,sgetH,sgetT,d0,dy,v1,v2,v3,z1,z2,z3,hle,hl2,bf t79,code79,hcm,h77,h75,g1,g2,h73,h83,kA,h71,h82,A2,B2,kB]
end
end Go.Abs.AbsFlow

namespace Go.Abs
def AOper.isLoc (o:AOper):Bool:=match o.op with
 | .lalloc _ | .lbox _ | .ext (.hstore _) _=>true
 | _=>false
def locsOf:Nat→List AOper→List Nat
 | _,[]=>[]
 | i,o :: r=>if o.isLoc then i :: locsOf (i+1) r else locsOf (i+1) r
def ACode.hint:ACode→Hint
 | .skip | .exit _ | .ret | .next _ _=>.leaf
 | .region gs=>.reg (gs.map fun g=>(g.quiet,g.ops.length)) (locsOf 0 (gs.flatMap Seg.ops))
 | .seq (.next _ _) _=>.next
 | .seq a b=>.seq a.hint b.hint
 | .cond (.const (.str [])) .skip .skip=>.stuck
 | .cond _ a b=>.cond a.hint b.hint
 | .block _ c=>.block c.hint
 | .loop c=>.loop c.hint
 | .live l c=>.live l c.hint
 | .after c l=>.after c.hint l
 | .rangeFunc _ g caps _ a b=>.rangeFunc g caps a.hint b.hint
theorem ow {E:Env} {T:Nat→Option AFunc} {f g:Nat} {fn:Func} {c:AFunc} {b:Bool} {hint:Hint} (h3:cFunc E b hint fn=some c) (h1:E.P.funcs[f]? = some fn) (h2:T g=some c) (h4:RndOK E c.body.rounds):FnOK E T f g:=.inr (.inl ⟨_,_,_,_,h1,h2,h3,h4⟩)
end Go.Abs
