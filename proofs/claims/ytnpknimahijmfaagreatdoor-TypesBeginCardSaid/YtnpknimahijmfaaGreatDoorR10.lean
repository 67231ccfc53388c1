/-
  Texts joined.
-/
import Derived.Test.YtnpknimahijmfaaGreatDoorR0
import Derived.Test.YtnpknimahijmfaaGreatDoorR9
import Derived.Test.YtnpknimahijmfaaGreatDoorR7
set_option linter.unusedVariables false
set_option linter.unusedSimpArgs false
set_option maxRecDepth 100000
namespace Go.Abs.Zh
open Go.Abs.Zd
variable {os O:List AObj} {b w:Nat} {N:Nat} {S:List (Str × Str)} {F M:List (Key × Mem)} {V:List (Key × Bool)}
def lineS (S:List (Str × Str)):Nat→Str→List Str
 | 0,_=>[]
 | k+1,c=>match gg S c with
  | some d=>c :: lineS S k d
  | none=>[]
def runL {σ:Type} (step:σ→Str→σ × Option AExit):σ→List Str→σ × Option AExit
 | x,[]=>(x,none)
 | x,c :: r=>match step x c with
  | (y,none)=>runL step y r
  | (y,some e)=>(y,some e)
theorem s156 {c:Str} (hN:N < O.length):xCall T 156 [.ptr (some (N,0)),.str c] ⟨O,b,w⟩ =
  some (.func 155 [] [.ptr (some (O.length,0)),.ptr (some (O.length+1,0))],⟨O++[.cells 1 [.ptr (some (N,0))],.cells 1 [.str c]],b,w⟩):=by
 simp (disch:=omega) [av t156,code156,jc,lb,nltT,nltF,hN]
structure LineB {σ:Type} (B:σ→Str→AObj→List AObj) (N n i g lo:Nat) (sl:List (Nat × AVal)) (S:List (Str × Str)) (step:σ→Str→σ × Option AExit) (b:Nat):Prop where
 bn:b≤n
 lon:lo≤n
 c0:∀ x c o,(B x c o)[n]? = some (.cells 1 [.ptr (some (N,0))])
 c1:∀ x c o,(B x c o)[n+1]? = some (.cells 1 [.str c])
 set:∀ x c d o,(B x c o).set (n+1) (.cells 1 [.str d])=B x d o
 loop:∀ x c o,(B x c o)[i]? = some o
 w0:∀ x c o,∃ r,(B x c o)[N]? = some (.cells 4 (.map (some (N+1)) :: r))
 m1:∀ x c o,(B x c o)[N+1]? = some (ft .str .str S)
 body:∀ x c w,lo≤w→∃ w',lo≤w'∧w'≤i∧xCall T g [.ptr (some (i,0)),.str c] ⟨B x c (.loop g .ready none sl),b,w⟩ =
  some (.bool (step x c).2.isNone,⟨B (step x c).1 c (match (step x c).2 with | none=>.loop g .ready none sl | some e=>.loop g .done (some e) sl),b,w'⟩)
def endO (g:Nat) (sl:List (Nat × AVal)):Option AExit→AObj
 | none=>.loop g .ready none sl
 | some e=>.loop g .done (some e) sl
section
variable {σ:Type} {B:σ→Str→AObj→List AObj} {n i g lo:Nat} {sl:List (Nat × AVal)} {step:σ→Str→σ × Option AExit}
section
attribute [-simp] getElem?_pos getElem?_neg
theorem l155 (h:LineB B N n i g lo sl S step b) (hS:S.length≤9223372036854775807):∀ (j q:Nat) (x:σ) (c:Str) (w:Nat),q+j=S.length→lo≤w →
  ∃ c' w' e,lo≤w'∧(w'≤i∨(lineS S j c=[]∧c'=c∧w'=w))∧(e = .ret∨e = .exit 0)∧∀ (k:AExit→St→Option (AVal × Heap)),xK T (.loop code155L0) ⟨[(0,.val (.yield i)),(1,.val (.ptr (some (n,0)))),(2,.val (.ptr (some (n+1,0)))),(10,.val (.int .i64 S.length)),(11,.val (.int .i64 q))],⟨B x c (.loop g .ready none sl),b,w⟩⟩ (k:=⟨k⟩) =
   k e ⟨[],⟨B (runL step x (lineS S j c)).1 c' (endO g sl (runL step x (lineS S j c)).2),b,w'⟩⟩
 | 0,q,x,c,w,hq,hw=>by refine ⟨c,w,.exit 0,hw,.inr ⟨rfl,rfl,rfl⟩,.inr rfl,fun k=>?_⟩;rw [ce];simp (disch:=omega) [code155L0,iltF,lineS,runL,endO]
 | j+1,q,x,c,w,hq,hw=>by
  obtain ⟨r,hr⟩:=h.w0 x c (.loop g .ready none sl);have h0:=h.c0 x c (.loop g .ready none sl);have h1:=h.c1 x c (.loop g .ready none sl);have hl:=h.loop x c (.loop g .ready none sl);have hlk:=ri (b:=b) (w:=(B x c (.loop g .ready none sl)).length) (kn:=.one .s) (zero:=.str []) vu (h.m1 x c (.loop g .ready none sl)) (k:=c) rfl;have hlk2:=ri (b:=b) (w:=w) (kn:=.one .s) (zero:=.str []) vu (h.m1 x c (.loop g .ready none sl)) (k:=c) rfl;have e:((gg S c).map AVal.str).getD (.str []) = .str ((gg S c).getD []):=by cases gg S c <;> rfl
  rw [e] at hlk hlk2;cases hg:gg S c with
  | none =>
   refine ⟨c,w,.ret,hw,.inr ⟨by simp only [lineS,hg],rfl,rfl⟩,.inl rfl,fun k=>?_⟩;rw [hg] at hlk hlk2;simp only [li,lj,cr,Option.isSome_some] at hlk hlk2;rw [ce];simp (disch:=omega) [-dm,gz,gs,code155L0,iltT,h0,h1,hr,hlk,hlk2,lineS,runL,endO,hg]
  | some d =>
   rw [hg] at hlk hlk2;simp only [li,lj,cr,Option.isSome_some] at hlk hlk2;obtain ⟨w1,hw1,hwi,hb⟩:=h.body x c w hw;have hbn:=h.bn;have hlon:=h.lon;cases hst:step x c with
   | mk y e =>
    rw [hst] at hb;simp only at hb;cases e with
    | some e =>
     refine ⟨c,w1,.ret,hw1,.inl hwi,.inl rfl,fun k=>?_⟩;rw [ce];simp (disch:=omega) [-dm,gz,gs,code155L0,iltT,h0,h1,hr,hl,hlk,hlk2,hb,lineS,runL,endO,hg,hst]
    | none =>
     obtain ⟨c',w',e',hw',hwj,he',ih⟩:=l155 h hS j (q+1) y d (min w1 (n+1)) (by omega) (by omega);refine ⟨c',w',e',hw',?_,he',fun k=>?_⟩
     ·rcases hwj with h2 | ⟨_,_,h2⟩
      ·exact .inl h2
      ·exact .inl (by omega)
     have ih:=ih k;have e2:((q+1:Nat):Int)=(q:Int)+1:=by omega
     rw [e2] at ih;have h1':=h.c1 y c (.loop g .ready none sl);have hs:=h.set y c d (.loop g .ready none sl);rw [ce];generalize ACode.loop code155L0=L at ih ⊢;simp (disch:=omega) [-dm,gz,gs,code155L0,iltT,nleT,dg,h0,h1,h1',hr,hl,hlk,hlk2,hb,hs,lineS,runL,hg,hst,ih]
end
theorem s155 (h:LineB B N n i g lo sl S step b) (hS:S.length≤9223372036854775807) (x:σ) (c:Str) (w:Nat) (hw:lo≤w) (hlo:lo≤(B x c (.loop g .ready none sl)).length) :
  ∃ c' w',lo≤w'∧xCall T 155 [.yield i,.ptr (some (n,0)),.ptr (some (n+1,0))] ⟨B x c (.loop g .ready none sl),b,w⟩ =
   some (.tuple [],⟨B (runL step x (lineS S S.length c)).1 c' (endO g sl (runL step x (lineS S S.length c)).2),b,w'⟩):=by
 have h0:=h.c0 x c (.loop g .ready none sl);obtain ⟨r,hr⟩:=h.w0 x c (.loop g .ready none sl);have hlen:=fun w=>len_map (b:=b) (w:=w) (h.m1 x c (.loop g .ready none sl))
 obtain ⟨c',w',e,hw',hwi,he,hl⟩:=l155 h hS S.length 0 x c (B x c (.loop g .ready none sl)).length (by omega) hlo;simp only [bh] at hl;have hil:=aj (h.loop x c (.loop g .ready none sl));refine ⟨c',if w' < (B x c (.loop g .ready none sl)).length then min w w' else w,by split <;> omega,?_⟩;rcases he with rfl | rfl
 all_goals
  simp (disch:=omega) [-getElem?_pos,-getElem?_neg,-evLen,gz,gs,av t155,code155,h0,hr,hlen,hl];rcases hwi with hwi | ⟨h1,h2,_⟩
  ·rw [if_pos (by omega),if_pos (by omega)]
  ·subst h2;rw [h1];split <;> simp [runL,endO]
end
end Go.Abs.Zh

namespace Go.Abs.Zh
open Go.Abs.Zd
variable {os O:List AObj} {b w:Nat} {N:Nat} {S:List (Str × Str)} {F M:List (Key × Mem)} {V:List (Key × Bool)}
def objectT:Str:=[79,98,106,101,99,116]
def lineEndB (O:List AObj) (N:Nat) (x:Str × Int) (c:Str) (o:AObj):List AObj :=
 O++[.cells 1 [.str x.1],.cells 1 [.int .i64 x.2],.cells 1 [.ptr (some (N,0))],.cells 1 [.str c],o]
def lineEndStep (x:Str × Int) (c:Str):(Str × Int) × Option AExit:=((c,IntKind.i64.wrap (x.2+1)),none)
theorem lineEnd_at (h:World O N S F M V) (hb:b≤O.length):LineB (lineEndB O N) N (O.length+2) (O.length+4) 321 O.length [(5,.ptr (some (O.length,0))),(6,.ptr (some (O.length+1,0)))] S lineEndStep b where
 bn:=by omega
 lon:=by omega
 c0:=fun x c o=>by unfold lineEndB; rw [d8]; rfl
 c1:=fun x c o=>by unfold lineEndB; rw [bo,d8]; rfl
 set:=fun x c d o=>by unfold lineEndB; rw [bo,ir]; rfl
 loop:=fun x c o=>by unfold lineEndB; rw [d8]; rfl
 w0:=fun x c o=>⟨_,by unfold lineEndB; rw [ag (by have:=h.lt; omega)]; exact h.w0⟩
 m1:=fun x c o=>by unfold lineEndB; rw [ag (by have:=h.lt; omega)]; exact h.m1
 body:=fun x c w hw=>by
  have hb1:b≤O.length+1:=by omega
  have hb4:b≤O.length+4:=by omega
  refine ⟨O.length,ai _,by omega,?_⟩;simp (disch:=omega) [-getElem?_pos,-getElem?_neg,gz,gs,uw t321 rfl,round321,rcode321a,rcode321b,ki,ku,roundOut,setArgs,ofCaps,lineEndB,lineEndStep,nltT,nltF,d8,dj,ir,gv,hb,hb1,hb4]
theorem lineS_len (S:List (Str × Str)):∀ (k:Nat) (c:Str),(lineS S k c).length≤k
 | 0,_=>ai _
 | k+1,c=>by
  simp only [lineS];split
  ·rename_i d _;have:=lineS_len S k d;simp only [bg]; omega
  ·simp
theorem zd:∀ (L:List Str) (l:Str) (k:Nat),k+L.length≤9223372036854775807→runL lineEndStep (l,(k:Int)) L=((L.getLastD l,((k+L.length:Nat):Int)),none)
 | [],l,k,_=>rfl
 | c :: L,l,k,h=>by simp only [bg] at h;simp only [runL,lineEndStep];rw [pq (n:=k+1) (by omega) (by omega),zd L c (k+1) (by omega)];simp only [List.getLastD_cons,bg];congr 3;omega
def endsS (S:List (Str × Str)) (c:Str):Bool:=decide ((lineS S S.length c).getLastD []=objectT) && decide (1 < (lineS S S.length c).length)
theorem s98 (h:World O N S F M V) (hb:b≤O.length) (hS:S.length≤9223372036854775807) {c:Str}:xCall T 98 [.ptr (some (N,0)),.str c] ⟨O,b,w⟩=some (.bool (endsS S c),⟨O,b,w⟩):=by
 have hN:=h.lt;have hN2:N < O.length+2:=by omega
 have hb1:b≤O.length+1:=by omega
 have hb4:b≤O.length+4:=by omega
 have h1:=fun w=>s156 (O:=O++[.cells 1 [.str []],.cells 1 [.int .i64 0]]) (b:=b) (w:=w) (N:=N) (c:=c) (by simp; omega)
 simp only [aq,bg,bp,eh,bl,ci,bw,Nat.reduceAdd,bo] at h1;obtain ⟨c',w',hw',h2⟩:=s155 (lineEnd_at h hb) hS ([],0) c O.length (ai _) (by simp [lineEndB]);have hrun:=zd (lineS S S.length c) [] 0 (by have:=lineS_len S S.length c; omega);simp only [bh,eh] at hrun;rw [hrun] at h2;simp only [lineEndB,endO,bo,Nat.reduceAdd] at h2;unfold endsS objectT;generalize (lineS S S.length c).getLastD []=l at h2 ⊢;by_cases e:l=[79,98,106,101,99,116]
 ·simp (disch:=omega) [-getElem?_pos,-getElem?_neg,gz,gs,av t98,code98,capsOf,callVal,h1,h2,loopEnd,nltT,nltF,d8,dj,ir,gv,hb,hb1,hb4,e];omega
 ·simp (disch:=omega) [-getElem?_pos,-getElem?_neg,gz,gs,av t98,code98,capsOf,callVal,h1,h2,loopEnd,nltT,nltF,d8,dj,ir,gv,hb,hb1,hb4,e]
end Go.Abs.Zh

namespace Go.Abs
theorem row_flat {α:Type} {e:Nat} {f:α→List AVal} {cs:List AVal}:∀ (L:List α) (o:Nat),(∀ (j:Nat) (x:α),L[j]? = some x→o+j*e+e≤cs.length∧(cs.drop (o+j*e)).take e=f x)→(cs.drop o).take (L.length*e)=L.flatMap f
 | [],o,_=>by simp
 | x :: L,o,h=>by
  have h0:=(h 0 x rfl).2;rw [Nat.zero_mul,jj] at h0
  have ih:=row_flat L (o+e) fun j y hy=>by have:=h (j+1) y hy;rw [gj,Nat.one_mul,zp (j*e) e,← bo] at this;exact this
  rw [bg,gj,Nat.one_mul,zp,List.take_add,cj,h0,ll,ih]
theorem o0 {α:Type} {e:Nat} {f:α→List AVal} {h:Heap} {L:List α} {a:Option (Nat × Nat)} {c:Option Nat} (hR:Row h.objs e f L a):gx e h (.slice a L.length c)=some (L.flatMap f):=by
 by_cases hL:L=[]
 ·subst hL;cases a with
  | none=>rfl
  | some p=>rfl
 ·obtain ⟨b,o,cs,h1,h2,h3⟩:=hR.at' hL;subst h1;have hl:L.length≠0:=fun e=>hL (bc e)
  have hg:h.get b=some (.cells e cs):=h2;unfold gx;simp only;rw [if_neg hl,hg];simp only;obtain ⟨x,hx⟩:∃ x,L[L.length - 1]? = some x:=⟨_,ah (by omega)⟩;have hb:=(h3 _ _ hx).1
  have he:(L.length - 1)*e+e=L.length*e:=by rw [← Nat.succ_mul]; congr 1; omega
  have h2:True∧o+L.length*e≤cs.length:=⟨trivial,by omega⟩;rw [if_pos h2,row_flat L o h3]
theorem oa {e:Nat} {h:Heap} {a:Option (Nat × Nat)} {c:Option Nat}:gx e h (.slice a 0 c)=some []:=by
 cases a with
 | none=>rfl
 | some p=>rfl
theorem ly {e n:Nat} {h:Heap} {i:Nat} {cs:List AVal} {c:Option Nat} (hg:h.objs[i]? = some (.cells e cs)) (hn:cs.length=n*e):gx e h (.slice (some (i,0)) n c)=some cs:=by
 unfold gx;simp only;split
 ·rename_i h0;subst h0;rw [Nat.zero_mul] at hn;rw [bc hn]
 ·have hg':h.get i=some (.cells e cs):=hg;rw [hg'];simp only;have h2:True∧0+n*e≤cs.length:=⟨trivial,by omega⟩;rw [if_pos h2,dy,← hn,List.take_length]
theorem jv (t:Nat):sget [] t=none:=by simp
theorem jw (t:Nat) (x:Slot) (r:Slots):sget ((t,x) :: r) t=some x:=by simp
theorem jx (u t:Nat) (x:Slot) (r:Slots) (h:u≠t):sget ((u,x) :: r) t=sget r t:=by simp [h]
end Go.Abs

namespace Go.Abs.Zh
open Go.Abs.Zd
variable {os O:List AObj} {b w:Nat} {N:Nat} {S:List (Str × Str)} {F M:List (Key × Mem)} {V:List (Key × Bool)}
def isB (O:List AObj) (N:Nat) (d:Str) (x:Bool) (c:Str) (o:AObj):List AObj :=
 O++[.cells 1 [.str d],.cells 1 [.bool x],.cells 1 [.ptr (some (N,0))],.cells 1 [.str c],o]
def isStep (d:Str) (x:Bool) (c:Str):Bool × Option AExit:=if c=d then (true,some .ret) else (x,none)
theorem is_at {d:Str} (h:World O N S F M V) (hb:b≤O.length):LineB (isB O N d) N (O.length+2) (O.length+4) 320 O.length [(5,.ptr (some (O.length,0))),(6,.ptr (some (O.length+1,0)))] S (isStep d) b where
 bn:=by omega
 lon:=by omega
 c0:=fun x c o=>by unfold isB; rw [d8]; rfl
 c1:=fun x c o=>by unfold isB; rw [bo,d8]; rfl
 set:=fun x c d o=>by unfold isB; rw [bo,ir]; rfl
 loop:=fun x c o=>by unfold isB; rw [d8]; rfl
 w0:=fun x c o=>⟨_,by unfold isB; rw [ag (by have:=h.lt; omega)]; exact h.w0⟩
 m1:=fun x c o=>by unfold isB; rw [ag (by have:=h.lt; omega)]; exact h.m1
 body:=fun x c w hw=>by
  have hb1:b≤O.length+1:=by omega
  have hb4:b≤O.length+4:=by omega
  by_cases e:c=d
  ·refine ⟨min w (O.length+1),by omega,by omega,?_⟩;simp (disch:=omega) [-getElem?_pos,-getElem?_neg,gz,gs,uw t320 rfl,round320,rcode320a,rcode320b,ki,ku,roundOut,setArgs,ofCaps,isB,isStep,nltT,nltF,d8,dj,ir,gv,hb,hb1,hb4,e]
  ·refine ⟨min w (O.length+4),by omega,by omega,?_⟩;simp (disch:=omega) [-getElem?_pos,-getElem?_neg,gz,gs,uw t320 rfl,round320,rcode320a,rcode320b,ki,ku,roundOut,setArgs,ofCaps,isB,isStep,nltT,nltF,d8,dj,ir,gv,hb,hb1,hb4,e]
theorem is_run (d:Str):∀ L:List Str,runL (isStep d) false L=if L.any (fun c=>decide (c=d)) then (true,some .ret) else (false,none)
 | []=>rfl
 | c :: L=>by
  have ih:=is_run d L;by_cases e:c=d
  ·simp [runL,isStep,e]
  ·simp only [runL,isStep,e,if_false,ih,List.any_cons,decide_false,Bool.false_or]
def isS (S:List (Str × Str)) (c d:Str):Bool:=(lineS S S.length c).any fun x=>decide (x=d)
theorem s52 (h:World O N S F M V) (hb:b≤O.length) (hS:S.length≤9223372036854775807) {c d:Str}:xCall T 52 [.ptr (some (N,0)),.str c,.str d] ⟨O,b,w⟩=some (.bool (isS S c d),⟨O,b,w⟩):=by
 have hN:=h.lt;have hN2:N < O.length+2:=by omega
 have hb1:b≤O.length+1:=by omega
 have hb4:b≤O.length+4:=by omega
 have h1:=fun w=>s156 (O:=O++[.cells 1 [.str d],.cells 1 [.bool false]]) (b:=b) (w:=w) (N:=N) (c:=c) (by simp; omega)
 simp only [aq,bg,bp,eh,bl,ci,bw,Nat.reduceAdd,bo] at h1;obtain ⟨c',w',hw',h2⟩:=s155 (is_at (d:=d) h hb) hS false c O.length (ai _) (by simp [isB]);rw [is_run] at h2;unfold isS;generalize (lineS S S.length c).any (fun x=>decide (x=d))=r at h2 ⊢;cases r with
 | true =>
  simp only [if_true,isB,endO,bo,Nat.reduceAdd] at h2;simp (disch:=omega) [-getElem?_pos,-getElem?_neg,gz,gs,av t52,code52,capsOf,callVal,h1,h2,loopEnd,nltT,nltF,d8,dj,ir,gv,hb,hb1,hb4]
 | false =>
  simp only [am,if_false,isB,endO,bo,Nat.reduceAdd] at h2;simp (disch:=omega) [-getElem?_pos,-getElem?_neg,gz,gs,av t52,code52,capsOf,callVal,h1,h2,loopEnd,nltT,nltF,d8,dj,ir,gv,hb,hb1,hb4]
theorem s36 {s:Str} (hn:s.length≤9223372036854775807):xCall T 36 [.str s] ⟨os,b,w⟩=some (elemV s,⟨os,b,w⟩):=fj sub (Zd.s36 hn)
theorem s30 {s:Str}:xCall T 30 [.str s] ⟨os,b,w⟩=some (.bool (isRef s),⟨os,b,w⟩):=fj sub Zd.s30
def ve (S:List (Str × Str)):Str→Str→Bool
 | [],t=>thereS S [] && thereS S t && decide (t=[])
 | x :: r,t=>thereS S (x :: r) && thereS S t && (decide (x :: r=t) || (if x :: r=[78] then isRef t else match classOf (x :: r),classOf t with
  | some a,some c=>isS S a c
  | none,some c=>decide (x=91) && decide (c=objectT)
  | some _,none=>false
  | none,none=>decide (x=91) && eg 91 t && isRef r && isRef t.tail && ve S r t.tail))
theorem n8 {s:Str} {c:Str} (h:classOf s=some c):eg 91 s=false∧eg 76 s=true:=by
 unfold classOf isObj at h;split at h
 ·rename_i h1;simp only [az,decide_eq_true_eq] at h1;refine ⟨?_,h1.1.2⟩;cases s with
  | nil=>rfl
  | cons x r =>
   have h2:=h1.1.2;simp only [eg,decide_eq_true_eq] at h2 ⊢;subst h2; rfl
 ·cases h
section
attribute [-simp] getElem?_pos getElem?_neg List.all_eq_true sget
attribute [local simp] gz gs nltT nltF iltT iltF ileT nleT dg jv jw jx
set_option maxHeartbeats 2000000 in
theorem s47 (h:World O N S F M V) (hb:b≤O.length) (hS:S.length≤9223372036854775807):∀ (s t:Str) (w:Nat),s.length≤9223372036854775807→t.length≤9223372036854775807 →
  xCall T 47 [.ptr (some (N,0)),.str s,.str t] ⟨O,b,w⟩=some (.bool (ve S s t),⟨O,b,w⟩)
 | [],t,w,hs,ht=>by
  have h103a:=fun w=>s103 (b:=b) (w:=w) h (t:=[]) (by simp)
  have h103:=fun w=>s103 (b:=b) (w:=w) h ht
  have h34:=fun w=>s34 (os:=O) (b:=b) (w:=w) ht
  have h34a:=fun w=>s34 (os:=O) (b:=b) (w:=w) (s:=[]) (by simp)
  have h36:=fun w=>s36 (os:=O) (b:=b) (w:=w) ht
  have h36a:=fun w=>s36 (os:=O) (b:=b) (w:=w) (s:=[]) (by simp)
  rw [pp] at h34 h34a;have hc0:classOf []=none:=rfl;rw [hc0] at h34a;simp only [elemV] at h36 h36a;have hb0:eg 91 []=false:=rfl;simp only [hb0,am,if_false,li,lj] at h36a h34a;unfold ve;rcases aw (thereS S []) with c1 | c1
  ·rcases aw (thereS S t) with c2 | c2
   ·by_cases c3:t=[]
    ·subst c3;simp (disch:=omega) [av t47,code47,h103a,c1,h34a,h36a]
    ·have c3':¬ []=t:=fun e=>c3 e.symm
     simp (disch:=omega) [av t47,code47,h103a,h103,c1,c2,h34a,h36a,h34,h36,c3,c3']
   ·simp (disch:=omega) [av t47,code47,h103a,h103,c1,c2]
  ·simp (disch:=omega) [av t47,code47,h103a,c1]
 | x :: r,t,w,hs,ht=>by
  have hr:r.length≤9223372036854775807:=by simp only [bg] at hs; omega
  have htt:t.tail.length≤9223372036854775807:=by rw [List.length_tail]; omega
  have ih:=fun w=>s47 h hb hS r t.tail w hr htt
  have h103a:=fun w=>s103 (b:=b) (w:=w) h hs
  have h103:=fun w=>s103 (b:=b) (w:=w) h ht
  have h34:=fun w=>s34 (os:=O) (b:=b) (w:=w) ht
  have h34a:=fun w=>s34 (os:=O) (b:=b) (w:=w) hs
  have h36:=fun w=>s36 (os:=O) (b:=b) (w:=w) ht
  have h36a:=fun w=>s36 (os:=O) (b:=b) (w:=w) hs
  have h30:=fun w s=>s30 (os:=O) (b:=b) (w:=w) (s:=s)
  have h52:=fun w a c=>s52 (w:=w) h hb hS (c:=a) (d:=c)
  rw [pp] at h34 h34a;simp only [elemV] at h36 h36a;have hbx:eg 91 (x :: r)=decide (x=91):=rfl;rw [hbx] at h36a;simp only [List.tail_cons] at h36a;rw [av t47];unfold ve;have hA:=fun c (e:classOf (x :: r)=some c)=>(n8 e).1
  have hB:=fun c (e:classOf t=some c)=>(n8 e).1
  rw [hbx] at hA;generalize hS0:x :: r=s at *;rcases aw (thereS S s) with c1 | c1;case inr=>simp (disch:=omega) [code47,h103a,c1]
  rcases aw (thereS S t) with c2 | c2;case inr=>simp (disch:=omega) [code47,h103a,h103,c1,c2]
  by_cases c3:s=t
  ·subst c3;cases hc:classOf s with
   | none =>
    rw [hc] at h34;by_cases c5:x=91
    ·simp (disch:=omega) [code47,h103,c1,h34,h36a,c5]
    ·simp (disch:=omega) [code47,h103,c1,h34,h36a,c5]
   | some q =>
    rw [hc] at h34;by_cases c5:x=91
    ·simp (disch:=omega) [code47,h103,c1,h34,h36a,c5]
    ·simp (disch:=omega) [code47,h103,c1,h34,h36a,c5]
  by_cases c4:s=[78]
  ·have hc:classOf s=none:=by rw [c4]; rfl
   have c5:¬ x=91:=by rw [c4] at hS0; simp only [km] at hS0; rw [hS0.1]; decide
   rw [hc] at h34a;have c3':¬ [78]=t:=by rw [← c4]; exact c3
   subst c4;simp (disch:=omega) [code47,h103a,h103,c1,c2,c3',h34a,h34,h36a,h36,c5,h30]
  cases hc:classOf s with
  | some a =>
   have c5:¬ x=91:=by have:=hA a hc; simpa using this
   rw [hc] at h34a;cases hd:classOf t with
   | some c =>
    rw [hd] at h34;have c6:=hB c hd;simp (disch:=omega) [code47,h103a,h103,c1,c2,c3,c4,h34a,h34,h36a,h36,c5,c6,h30,h52]
   | none =>
    rw [hd] at h34;simp (disch:=omega) [code47,h103a,h103,c1,c2,c3,c4,h34a,h34,h36a,h36,c5,h30,h52]
  | none =>
   rw [hc] at h34a;cases hd:classOf t with
   | some c =>
    rw [hd] at h34;have c6:=hB c hd;by_cases c5:x=91
    ·simp (disch:=omega) [code47,h103a,h103,c1,c2,c3,c4,h34a,h34,h36a,h36,c5,c6,h30,h52,objectT];congr
    ·simp (disch:=omega) [code47,h103a,h103,c1,c2,c3,c4,h34a,h34,h36a,h36,c5,c6,h30,h52,objectT]
   | none =>
    rw [hd] at h34;by_cases c5:x=91
    ·rcases aw (eg 91 t) with c6 | c6
     ·rcases aw (isRef r) with c7 | c7
      ·rcases aw (isRef t.tail) with c8 | c8
       ·simp (disch:=omega) [code47,h103a,h103,c1,c2,c3,c4,h34a,h34,h36a,h36,c5,c6,c7,c8,h30,ih]
       ·simp (disch:=omega) [code47,h103a,h103,c1,c2,c3,c4,h34a,h34,h36a,h36,c5,c6,c7,c8,h30,ih]
      ·simp (disch:=omega) [code47,h103a,h103,c1,c2,c3,c4,h34a,h34,h36a,h36,c5,c6,c7,h30,ih]
     ·simp (disch:=omega) [code47,h103a,h103,c1,c2,c3,c4,h34a,h34,h36a,h36,c5,c6,h30,ih]
    ·simp (disch:=omega) [code47,h103a,h103,c1,c2,c3,c4,h34a,h34,h36a,h36,c5,h30,ih]
end
end Go.Abs.Zh

namespace Go.Abs.Zh
open Go.Abs.Zd
variable {os O:List AObj} {b w:Nat} {N:Nat} {S:List (Str × Str)} {F M:List (Key × Mem)} {V:List (Key × Bool)}
end Go.Abs.Zh

namespace Go.Abs.Zh
open Go.Abs.Zd
variable {os O:List AObj} {b w:Nat} {N:Nat} {S:List (Str × Str)} {F M:List (Key × Mem)} {V:List (Key × Bool)}
def overB (O G:List AObj) (N:Nat) (m:MethU) (x:Bool) (c:Str) (o:AObj):List AObj :=
 O ++ .cells 1 [.ptr (some (N,0))] :: .cells 1 [.bool x] :: (G++[.cells 8 m.cells,.cells 1 [.ptr (some (N,0))],.cells 1 [.str c],o])
def overOk (M:List (Key × Mem)) (m:MethU) (c:Str):Bool:=match gg M (c,m.name,m.desc) with
 | some y=>y.st == m.st
 | none=>true
def overStep (M:List (Key × Mem)) (m:MethU) (x:Bool) (c:Str):Bool × Option AExit:=if overOk M m c then (x,none) else (false,some .ret)
section
attribute [-simp] getElem?_pos getElem?_neg
attribute [local simp] gz gs
theorem over_at {G:List AObj} {m:MethU} (h:World O N S F M V) (hb:b≤O.length) :
  LineB (overB O G N m) N (O.length+(G.length+3)) (O.length+(G.length+5)) 322 O.length [(2,.ptr (some (O.length,0))),(4,.ptr (some (O.length+1,0))),(6,.ptr (some (O.length+(G.length+2),0)))] S (overStep M m) b where
 bn:=by omega
 lon:=by omega
 c0:=fun x c o=>by unfold overB; rw [d8]; simp only [jk,d8]; rfl
 c1:=fun x c o=>by unfold overB; rw [bo,d8]; simp only [jk,bo,d8]; rfl
 set:=fun x c d o=>by unfold overB; rw [bo,ir]; simp only [List.set_cons_succ,bo,ir]; rfl
 loop:=fun x c o=>by unfold overB; rw [d8]; simp only [jk,d8]; rfl
 w0:=fun x c o=>⟨_,by unfold overB; rw [ag (by have:=h.lt; omega)]; exact h.w0⟩
 m1:=fun x c o=>by unfold overB; rw [ag (by have:=h.lt; omega)]; exact h.m1
 body:=fun x c w hw=>by
  have hl:=h.lt;have hw0:∀ X,(O++X)[N]? = _:=fun X=>(ag (l₂:=X) (show N < O.length by omega)).trans h.w0
  have hb1:b≤O.length+1:=by omega
  have hb5:b≤O.length+(G.length+5):=by omega
  have hlk:=fun X w=>ri (os:=O++X) (b:=b) (w:=w) (r:=N+3) (A:=M) (vf:=memF) (kn:=.agg [.s,.s,.s]) (zero:=.agg [.str [],.bool false]) yd (by rw [ag (by omega)]; exact h.m3) (k:=(c,m.name,m.desc)) rfl
  simp only [keyF] at hlk;cases hg:gg M (c,m.name,m.desc) with
  | none =>
   rw [hg] at hlk;simp only [Option.map_none,li,lj] at hlk;refine ⟨min w (O.length+(G.length+5)),by omega,by omega,?_⟩;simp (config:={ maxSteps:=1000000 }) (disch:=omega) [-dm,uw t322 rfl,round322,rcode322a,rcode322b,ki,ku,roundOut,setArgs,ofCaps,overB,overStep,overOk,nltT,nltF,d8,dj,ir,gv,hb,hb1,hb5,hlk,hg,hw0,MethU.cells]
  | some y =>
   rw [hg] at hlk;simp only [cf,cr,Option.isSome_some,memF] at hlk;by_cases e:y.st=m.st
   ·refine ⟨min w (O.length+(G.length+5)),by omega,by omega,?_⟩;simp (config:={ maxSteps:=1000000 }) (disch:=omega) [-dm,uw t322 rfl,round322,rcode322a,rcode322b,ki,ku,roundOut,setArgs,ofCaps,overB,overStep,overOk,nltT,nltF,d8,dj,ir,gv,hb,hb1,hb5,hlk,hg,hw0,MethU.cells,e]
   ·refine ⟨min w (O.length+1),by omega,by omega,?_⟩;simp (config:={ maxSteps:=1000000 }) (disch:=omega) [-dm,uw t322 rfl,round322,rcode322a,rcode322b,ki,ku,roundOut,setArgs,ofCaps,overB,overStep,overOk,nltT,nltF,d8,dj,ir,gv,hb,hb1,hb5,hlk,hg,hw0,MethU.cells,e]
end
def overM (S:List (Str × Str)) (M:List (Key × Mem)) (c:Str) (m:MethU):Bool:=(lineS S S.length c).all (overOk M m)
theorem over_run (M:List (Key × Mem)) (m:MethU):∀ L:List Str,runL (overStep M m) false L=(false,if L.all (overOk M m) then none else some .ret)
 | []=>rfl
 | c :: L=>by
  simp only [runL,overStep,dz];by_cases e:overOk M m c=true
  ·simp only [e,if_true,dh]; exact over_run M m L
  ·simp [e]
theorem jt {α:Type} {e:Nat} {f:α→List AVal} {L:List α} {a:Option (Nat × Nat)} (h:Row os e f L a) {i:Nat} {x:α} (hx:L[i]? = some x) :
  ∃ p o cs,a=some (p,o)∧os[p]? = some (.cells e cs)∧p < os.length∧o+i*e+e≤cs.length∧(cs.drop (o+i*e)).take e=f x:=by
 obtain ⟨p,o,cs,h1,h2,h3⟩:=h.at' (rg hx);exact ⟨p,o,cs,h1,h2,aj h2,h3 i x hx⟩
section
attribute [-simp] getElem?_pos getElem?_neg
theorem l97 {u:UnitU} (hu:u.ok O) (h:World O N S F M V) (hb:b≤O.length) (hS:S.length≤9223372036854775807):∀ (j i:Nat) (G:List AObj) (w:Nat),i+j=u.meths.length→O.length≤w →
  ∃ G' w' s',O.length≤w'∧sget s' 4=some (.val (.ptr (some (O.length+1,0))))∧∀ (k:AExit→St→Option (AVal × Heap)),
   xK T (.loop code97L1) ⟨[(2,.val (.ptr (some (O.length,0)))),(3,.var u.cells),(4,.val (.ptr (some (O.length+1,0)))),(11,.val (.slice u.ma u.meths.length u.mc)),(12,.val (.int .i64 u.meths.length)),(13,.val (.int .i64 i))],
    ⟨O ++ .cells 1 [.ptr (some (N,0))] :: .cells 1 [.bool false] :: G,b,w⟩⟩ (k:=⟨k⟩) =
   if (u.meths.drop i).all (overM S M u.name) then k (.exit 0) ⟨[(4,.val (.ptr (some (O.length+1,0))))],⟨O ++ .cells 1 [.ptr (some (N,0))] :: .cells 1 [.bool false] :: G',b,w'⟩⟩
   else k .ret ⟨s',⟨O ++ .cells 1 [.ptr (some (N,0))] :: .cells 1 [.bool false] :: G',b,w'⟩⟩
 | 0,i,G,w,hi,hw=>by refine ⟨G,w,[(4,.val (.ptr (some (O.length+1,0))))],hw,rfl,fun k=>?_⟩;rw [ce,br (by omega)];simp (disch:=omega) [code97L1,iltF]
 | j+1,i,G,w,hi,hw=>by
  obtain ⟨m,hm⟩:∃ m,u.meths[i]? = some m:=⟨_,ah (by omega)⟩;obtain ⟨p,o,cs,ha,hp,hpl,hcs,ht⟩:=jt hu.m hm;have hmn:u.meths.length≤9223372036854775807:=hu.mn;have hml:m.cells.length=8:=rfl
  have hd:u.meths.drop i=m :: u.meths.drop (i+1):=by have:=aj hm;rw [ah this] at hm;rw [eu this,dl hm]
  have hb2:b≤O.length+(G.length+2):=by omega
  have hb5:b≤O.length+(G.length+5):=by omega
  have hp':∀ X,(O++X)[p]? = _:=fun X=>(ag (l₂:=X) hpl).trans hp
  have hl:=h.lt;have h1:=fun w=>s156 (O:=O ++ .cells 1 [.ptr (some (N,0))] :: .cells 1 [.bool false] :: (G++[.cells 8 m.cells])) (b:=b) (w:=w) (N:=N) (c:=u.name) (by simp; omega)
  simp only [aq,bg,bp,eh,bl,ci,bw,Nat.reduceAdd,bo] at h1;obtain ⟨c',w',hw',h2⟩:=s155 (over_at (G:=G) (m:=m) h hb) hS false u.name (min w (O.length+(G.length+2))) (by omega) (by simp [overB]);rw [over_run] at h2;have hov:overM S M u.name m=(lineS S S.length u.name).all (overOk M m):=rfl;rw [← hov] at h2;by_cases e:overM S M u.name m=true
  ·rw [if_pos e] at h2;simp only [overB,endO,bo,Nat.reduceAdd] at h2;obtain ⟨G',w2,s',k1,k2,ih⟩:=l97 hu h hb hS j (i+1) (G++[.cells 8 m.cells,.cells 1 [.ptr (some (N,0))],.cells 1 [.str c'],.dead]) (min w' (O.length+(G.length+5))) (by omega) (by omega);refine ⟨G',w2,s',k1,k2,fun k=>?_⟩;have ih:=ih k;have e2:((i+1:Nat):Int)=(i:Int)+1:=by omega
   rw [e2] at ih;rw [ce,hd];simp only [dz,e,dh];rw [← ih];generalize ACode.loop code97L1=L;simp (disch:=omega) [gz,gs,code97L1,capsOf,callVal,h1,h2,loopEnd,nltT,nltF,iltT,ileT,nleT,dg,d8,dj,ir,gv,hb,hb2,hb5,hp',ht,ha,hml,UnitU.cells,bo]
  ·rw [if_neg e] at h2;simp only [overB,endO,bo,Nat.reduceAdd] at h2;refine ⟨G++[.cells 8 m.cells,.cells 1 [.ptr (some (N,0))],.cells 1 [.str c'],.dead],min w' (O.length+(G.length+5)),?_,by omega,?_,fun k=>?_⟩;rotate_left 2
   ·rw [ce,hd];simp only [dz,e,eb,am,if_false];generalize ACode.loop code97L1=L;simp (disch:=omega) [gz,gs,code97L1,capsOf,callVal,h1,h2,loopEnd,nltT,nltF,iltT,ileT,nleT,dg,d8,dj,ir,gv,hb,hb2,hb5,hp',ht,ha,hml,UnitU.cells,bo];rfl
   ·rfl
end
def overS (S:List (Str × Str)) (M:List (Key × Mem)) (u:UnitU):Bool:=u.meths.all (overM S M u.name)
theorem s97 {u:UnitU} (hu:u.ok O) (h:World O N S F M V) (hb:b≤O.length) (hS:S.length≤9223372036854775807):xCall T 97 [.ptr (some (N,0)),.agg u.cells] ⟨O,b,w⟩=some (.bool (overS S M u),⟨O,b,w⟩):=by
 have hl:=h.lt;have hb1:b≤O.length+1:=by omega
 obtain ⟨G',w',s',k1,k2,hk⟩:=l97 hu h hb hS u.meths.length 0 [] O.length (by omega) (ai _);simp only [bh,dy] at hk;unfold overS;by_cases e:u.meths.all (overM S M u.name)=true
 ·simp only [e,if_true] at hk ⊢;unfold UnitU.cells at hk ⊢;simp (disch:=omega) [-getElem?_pos,-getElem?_neg,gz,gs,av t97,code97,hk,nltT,nltF,d8,dj,ir,gv,hb,hb1]
 ·simp only [e,if_false] at hk ⊢;unfold UnitU.cells at hk ⊢;simp (disch:=omega) [-getElem?_pos,-getElem?_neg,gz,gs,av t97,code97,hk,k2,nltT,nltF,d8,dj,ir,gv,hb,hb1]
end Go.Abs.Zh

namespace Go.Abs.Zh
open Go.Abs.Zd
variable {os O:List AObj} {b w:Nat} {N:Nat} {S:List (Str × Str)} {F M:List (Key × Mem)} {V:List (Key × Bool)}
theorem World.setF (h:World O N S F M V) (F':List (Key × Mem)):World (O.set (N+2) (ft keyF memF F')) N S F' M V:=by
 have hl:=h.lt;constructor
 ·rw [au (by omega)]; exact h.w0
 ·rw [au (by omega)]; exact h.m1
 ·rw [de,if_pos rfl,if_pos (by omega)]
 ·rw [au (by omega)]; exact h.m3
 ·rw [au (by omega)]; exact h.m4
theorem World.setM (h:World O N S F M V) (M':List (Key × Mem)):World (O.set (N+3) (ft keyF memF M')) N S F M' V:=by
 have hl:=h.lt;constructor
 ·rw [au (by omega)]; exact h.w0
 ·rw [au (by omega)]; exact h.m1
 ·rw [au (by omega)]; exact h.m2
 ·rw [de,if_pos rfl,if_pos (by omega)]
 ·rw [au (by omega)]; exact h.m4
def fieldOk (S:List (Str × Str)) (A:List (Str × Bool)) (f:FieldU):Bool:=isName f.name && isTy f.desc && thereS S f.desc && !(gg A f.name).getD false
def fieldsS (S:List (Str × Str)):List (Str × Bool)→List FieldU→Bool
 | _,[]=>true
 | A,f :: r=>fieldOk S A f && fieldsS S (A++[(f.name,true)]) r
def fieldE (c:Str) (f:FieldU):Key × Mem:=((c,f.name,f.desc),⟨c,f.st⟩)
theorem l99 {u:UnitU} (hu:u.ok os) (hp:Pre os O) (hN:os.length≤N) (h:World O N S F M V) (hb:b≤N):∀ (j i:Nat) (F':List (Key × Mem)) (A:List (Str × Bool)) (w:Nat),i+j=u.fields.length→N+2≤w →
  (∀ x ∈ F',x.1.1=u.name→(gg A x.1.2.1).isSome=true)→(∀ x ∈ A,x.2=true) →
  ∃ O' w' e s',N+2≤w'∧(if fieldsS S A (u.fields.drop i) then e = .exit 0∧s'=[]∧(w'≤N+2∨(u.fields.drop i=[]∧w'=w))∧∃ X,O'=O.set (N+2) (ft keyF memF (F'++(u.fields.drop i).map (fieldE u.name)))++X else e = .ret∧s'=[(4,.val (.bool false))]) ∧
   ∀ (k:AExit→St→Option (AVal × Heap)),
   xK T (.loop code99L0) ⟨[(0,.val (.ptr (some (N,0)))),(3,.var u.cells),(5,.val (.map (some O.length))),(10,.val (.slice u.fa u.fields.length u.fc)),(11,.val (.int .i64 u.fields.length)),(12,.val (.int .i64 i))],
    ⟨O.set (N+2) (ft keyF memF F')++[ft .str .bool A],b,w⟩⟩ (k:=⟨k⟩)=k e ⟨s',⟨O',b,w'⟩⟩
 | 0,i,F',A,w,hi,hw,hF,hA=>by
  refine ⟨O.set (N+2) (ft keyF memF F')++[ft .str .bool A],w,.exit 0,[],hw,?_,fun k=>?_⟩
  ·rw [br (by omega)];simp only [fieldsS,if_true,f8,cq];exact ⟨trivial,trivial,.inr ⟨trivial,trivial⟩,_,rfl⟩
  ·rw [ce];simp (disch:=omega) [-getElem?_pos,-getElem?_neg,code99L0,iltF]
 | j+1,i,F',A,w,hi,hw,hF,hA=>by
  obtain ⟨f,hf⟩:∃ f,u.fields[i]? = some f:=⟨_,ah (by omega)⟩;obtain ⟨p,o,cs,ha,hpp,hpl,hcs,ht⟩:=jt hu.f hf;have hfn:u.fields.length≤9223372036854775807:=hu.fn;obtain ⟨hn1,hn2⟩:=hu.fok f (bq hf)
  have hd:u.fields.drop i=f :: u.fields.drop (i+1):=by have:=aj hf;rw [ah this] at hf;rw [eu this,dl hf]
  have hl:=h.lt;have hW:=(h.setF F').app [ft .str .bool A]
  have hpO:(O.set (N+2) (ft keyF memF F')++[ft .str .bool A])[p]? = some (.cells 3 cs):=by rw [ag (by simp; omega),au (by omega)]; exact hp _ _ hpp
  have hAl:(O.set (N+2) (ft keyF memF F')++[ft .str .bool A])[O.length]? = some (ft .str .bool A):=by rw [ak (by simp)]; simp
  have hbO:b≤(O.set (N+2) (ft keyF memF F')++[ft .str .bool A]).length:=by simp; omega
  have h181:=fun w=>s181 (O:=O.set (N+2) (ft keyF memF F')++[ft .str .bool A]) (b:=b) (w:=w) (s:=f.name) hbO
  have h27:=fun w=>s27 (os:=O.set (N+2) (ft keyF memF F')++[ft .str .bool A]) (b:=b) (w:=w) (s:=f.desc) hn2 hbO
  have h103:=fun w=>s103 (b:=b) (w:=w) hW (t:=f.desc) hn2
  have hlk:=fun w=>lookup_v (b:=b) (w:=w) (kn:=.one .s) (zero:=.bool false) vu hAl (k:=f.name) rfl
  have hlv:((gg A f.name).map AVal.bool).getD (.bool false) = .bool ((gg A f.name).getD false):=by cases gg A f.name <;> rfl
  rw [hlv] at hlk;have hm1:=hW.w0;have hc0:f.cells=[.bool f.st,.str f.name,.str f.desc]:=rfl;rw [hc0] at ht;by_cases c:fieldOk S A f=true
  ·have hc:=c;unfold fieldOk at hc;simp only [az,gc] at hc;obtain ⟨⟨⟨c1,c2⟩,c3⟩,c4⟩:=hc
   have hgA:gg A f.name=none:=by
    cases hg:gg A f.name with
    | none=>rfl
    | some v =>
     have:=hA _ (getE_mem hg);simp only at this;rw [hg,this] at c4; cases c4
   have hgF:gg F' (u.name,f.name,f.desc)=none:=by
    cases hg:gg F' (u.name,f.name,f.desc) with
    | none=>rfl
    | some v =>
     have:=hF _ (getE_mem hg) rfl;simp only at this;rw [hgA] at this; cases this
   have hup1:=fun w=>s9 (b:=b) (w:=w) (kn:=.one .s) vu hAl (k:=f.name) true rfl (by omega) hgA
   have hs1:(O.set (N+2) (ft keyF memF F')++[ft .str .bool A]).set O.length (ft .str .bool (A++[(f.name,true)]))=O.set (N+2) (ft keyF memF F')++[ft .str .bool (A++[(f.name,true)])]:=by rw [List.set_append_right _ _ (by simp)]; simp
   simp only [hs1] at hup1;have hW2:=(h.setF F').app [ft .str .bool (A++[(f.name,true)])];have hup2:=fun w=>s9 (b:=b) (w:=w) (kn:=.agg [.s,.s,.s]) yd hW2.m2 (k:=(u.name,f.name,f.desc)) ⟨u.name,f.st⟩ rfl (by omega) hgF
   have hs2:(O.set (N+2) (ft keyF memF F')++[ft .str .bool (A++[(f.name,true)])]).set (N+2) (ft keyF memF (F'++[((u.name,f.name,f.desc),⟨u.name,f.st⟩)]))=O.set (N+2) (ft keyF memF (F'++[fieldE u.name f]))++[ft .str .bool (A++[(f.name,true)])]:=by rw [tk _ _ (by simp; omega),List.set_set]; rfl
   simp only [hs2,keyF,memF] at hup2;have hm2:=hW2.w0
   obtain ⟨O',w',e,s',r1,r2,ih⟩:=l99 hu hp hN h hb j (i+1) (F'++[fieldE u.name f]) (A++[(f.name,true)]) (min (min w O.length) (N+2)) (by omega) (by omega) (fun x hx hn=>by
     rcases bz.1 hx with hx | hx
     ·rw [n9];have:=hF x hx hn;cases hg:gg A x.1.2.1 with
      | none=>rw [hg] at this; cases this
      | some v=>rfl
     ·rw [ef] at hx;subst hx;rw [n9];simp only [fieldE,hgA,Option.none_or,gg,if_true];rfl) (fun x hx=>by
     rcases bz.1 hx with hx | hx
     ·exact hA x hx
     ·rw [ef] at hx; subst hx; rfl)
   refine ⟨O',w',e,s',r1,?_,fun k=>?_⟩
   ·rw [hd];simp only [fieldsS,c,dh];rw [b0];rw [bl,List.singleton_append] at r2;split at r2
    ·rename_i hff;obtain ⟨q1,q2,q3,q4⟩:=r2;rw [if_pos hff];refine ⟨q1,q2,.inl ?_,q4⟩;rcases q3 with q3 | ⟨_,q3⟩ <;> omega
    ·rename_i hff;rw [if_neg hff]; exact r2
   have ih:=ih k;have e2:((i+1:Nat):Int)=(i:Int)+1:=by omega
   rw [e2] at ih;rw [ce,← ih];generalize ACode.loop code99L0=L;generalize O.set (N+2) (ft keyF memF F')++[ft .str .bool A]=H at hpO hAl hW hbO h181 h27 h103 hlk hup1 hm1 hs1 ⊢;generalize O.set (N+2) (ft keyF memF F')++[ft .str .bool (A++[(f.name,true)])]=H2 at hup1 hW2 hup2 hs1 hs2 hm2 ⊢;generalize O.set (N+2) (ft keyF memF (F'++[fieldE u.name f]))++[ft .str .bool (A++[(f.name,true)])]=H3 at hup2 hs2 ⊢;simp (disch:=omega) [-getElem?_pos,-getElem?_neg,-dm,gz,gs,code99L0,h181,h27,h103,hlk,nltT,nltF,iltT,ileT,nleT,dg,hb,hpO,ht,ha,c1,c2,c3,c4,hup1,hup2,hm1,hm2,keyF,memF,UnitU.cells]
  ·have hfl:fieldsS S A (u.fields.drop i)=false:=by rw [hd]; simp only [fieldsS,Bool.and_eq_false_iff]; left; simpa using c
   rw [hfl];refine ⟨O.set (N+2) (ft keyF memF F')++[ft .str .bool A],w,.ret,[(4,.val (.bool false))],hw,by simp,fun k=>?_⟩;rw [ce];generalize ACode.loop code99L0=L;generalize O.set (N+2) (ft keyF memF F')++[ft .str .bool A]=H at hpO hAl hW hbO h181 h27 h103 hlk hm1 ⊢;unfold fieldOk at c;cases c1:isName f.name with
   | false=>simp (disch:=omega) [-getElem?_pos,-getElem?_neg,-dm,gz,gs,code99L0,h181,h27,h103,hlk,nltT,nltF,iltT,ileT,nleT,dg,hb,hpO,ht,ha,c1,UnitU.cells]
   | true =>
    cases c2:isTy f.desc with
    | false=>simp (disch:=omega) [-getElem?_pos,-getElem?_neg,-dm,gz,gs,code99L0,h181,h27,h103,hlk,nltT,nltF,iltT,ileT,nleT,dg,hb,hpO,ht,ha,c1,c2,UnitU.cells]
    | true =>
     cases c3:thereS S f.desc with
     | false=>simp (disch:=omega) [-getElem?_pos,-getElem?_neg,-dm,gz,gs,code99L0,h181,h27,h103,hlk,nltT,nltF,iltT,ileT,nleT,dg,hb,hpO,ht,ha,c1,c2,c3,UnitU.cells]
     | true =>
      cases c4:(gg A f.name).getD false with
      | false=>rw [c1,c2,c3,c4] at c; exact absurd rfl c
      | true=>simp (disch:=omega) [-getElem?_pos,-getElem?_neg,-dm,gz,gs,code99L0,h181,h27,h103,hlk,nltT,nltF,iltT,ileT,nleT,dg,hb,hpO,ht,ha,c1,c2,c3,c4,UnitU.cells]
theorem mObj_set (h:World O N S F M V):O.set (N+2) (ft keyF memF F)=O:=by
 have:=h.lt;refine me fun i=>?_
 by_cases e:N+2=i
 ·subst e; rw [de,if_pos rfl,if_pos (by omega),h.m2]
 ·rw [au e]
section
attribute [-simp] getElem?_pos getElem?_neg
attribute [local simp] gz gs
theorem s99 {u:UnitU} (hu:u.ok os) (hp:Pre os O) (hN:os.length≤N) (h:World O N S F M V) (hb:b≤N) (hF:∀ x ∈ F,x.1.1≠u.name) :
  ∃ O' w',min w (N+2)≤w'∧(fieldsS S [] u.fields=true→∃ X,O'=O.set (N+2) (ft keyF memF (F++u.fields.map (fieldE u.name)))++X) ∧
   xCall T 99 [.ptr (some (N,0)),.agg u.cells] ⟨O,b,w⟩=some (.bool (fieldsS S [] u.fields),⟨O',b,w'⟩):=by
 have hl:=h.lt;obtain ⟨O',w',e,s',r1,r2,hk⟩:=l99 hu hp hN h hb u.fields.length 0 F [] O.length (by omega) (by omega) (fun x hx hn=>absurd hn (hF x hx)) (fun _ h=>by cases h);rw [mObj_set h] at hk;have hm0:ft AVal.str AVal.bool [] = .map [] 0:=rfl;simp only [bh,dy,hm0] at hk r2;by_cases c:fieldsS S [] u.fields=true
 ·rw [if_pos c] at r2;obtain ⟨rfl,rfl,q3,X,q4⟩:=r2;rw [c];rcases q3 with q3 | ⟨q3,q5⟩
  ·refine ⟨O',min w w',by omega,fun _=>⟨X,q4⟩,?_⟩;unfold UnitU.cells at hk ⊢;simp (disch:=omega) [av t99,code99,hk,nltT]
  ·refine ⟨O,w,by omega,fun _=>⟨[],by rw [q3,f8,cq,cq,mObj_set h]⟩,?_⟩;unfold UnitU.cells at hk ⊢;simp (disch:=omega) [av t99,code99,hk,nltF]
 ·rw [if_neg c] at r2;obtain ⟨rfl,rfl⟩:=r2;have c':fieldsS S [] u.fields=false:=by simpa using c
  rw [c'];refine ⟨if w' < O.length then O' else O,if w' < O.length then min w w' else w,by split <;> omega,by simp,?_⟩;unfold UnitU.cells at hk ⊢;simp (disch:=omega) [av t99,code99,hk];split <;> rfl
end
end Go.Abs.Zh

namespace Go.Abs.Zh
open Go.Abs.Zd
variable {os O:List AObj} {b w:Nat} {N:Nat} {S:List (Str × Str)} {F M:List (Key × Mem)} {V:List (Key × Bool)}
theorem methL_len {s:Str} {A:List Str} {r:Str} (h:methL s=some (A,r)):A.length≤16∧r.length≤s.length∧∀ t ∈ A,t.length≤s.length:=by
 unfold methL at h;split at h
 ·split at h
  ·rename_i A' r' hm;split at h
   ·cases h;obtain ⟨h1,h2,h3⟩:=ov hm;simp only [List.length_tail] at h2 h3;exact ⟨h1,by simp only [List.length_tail]; omega,fun t ht=>by have:=h3 t ht; omega⟩
   ·cases h
  ·cases h
 ·cases h
section
attribute [-simp] getElem?_pos getElem?_neg
theorem l182 {H:List AObj} {L:List Str} {a:Option (Nat × Nat)} {c:Option Nat} {m:MethU} (h:World H N S F M V) (hR:Row H 1 dt L a) (hL:L.length≤9223372036854775807) (ht:∀ t ∈ L,t.length≤9223372036854775807) :
  ∀ (j i:Nat) (w:Nat),i+j=L.length→∀ (k:AExit→St→Option (AVal × Heap)),
  xK T (.loop code182L1) ⟨[(0,.val (.ptr (some (N,0)))),(3,.var m.cells),(30,.val (.slice a L.length c)),(31,.val (.int .i64 L.length)),(32,.val (.int .i64 i))],⟨H,b,w⟩⟩ (k:=⟨k⟩) =
   if (L.drop i).all (thereS S) then k (.exit 0) ⟨[(0,.val (.ptr (some (N,0)))),(3,.var m.cells)],⟨H,b,w⟩⟩ else k .ret ⟨[(4,.val (.bool false))],⟨H,b,w⟩⟩
 | 0,i,w,hi,k=>by rw [ce,br (by omega)];simp (disch:=omega) [code182L1,iltF]
 | j+1,i,w,hi,k=>by
  obtain ⟨t,hx⟩:∃ t,L[i]? = some t:=⟨_,ah (by omega)⟩;obtain ⟨p,o,cs,rfl,hp,hpl,hcs,hv⟩:=jt hR hx
  have hg:cs[o+i]? = some (.str t):=by
   have:(List.take 1 (List.drop (o+i*1) cs))[0]? = some (.str t):=by rw [hv]; rfl
   simpa using this
  have hd:L.drop i=t :: L.drop (i+1):=by have:=aj hx;rw [ah this] at hx;rw [eu this,dl hx]
  have h103:=fun w=>s103 (b:=b) (w:=w) h (t:=t) (ht t (bq hx))
  have ih:=l182 (m:=m) (c:=c) h hR hL ht j (i+1) w (by omega) k;have e2:((i+1:Nat):Int)=(i:Int)+1:=by omega
  rw [e2] at ih;rw [ce,hd];simp only [dz];generalize ACode.loop code182L1=L' at ih ⊢;rcases aw (thereS S t) with c1 | c1
  ·simp (disch:=omega) [gz,gs,code182L1,h103,iltT,ileT,nltT,nleT,dg,hp,hg,c1,ih]
  ·simp (disch:=omega) [gz,gs,code182L1,h103,iltT,ileT,nltT,nleT,dg,hp,hg,c1]
end
def trapOk (S:List (Str × Str)) (t:TrapU):Bool:=decide (t.cls=[]) || (gg S t.cls).isSome
section
attribute [-simp] getElem?_pos getElem?_neg
theorem l182t {H:List AObj} {L:List TrapU} {a:Option (Nat × Nat)} {c:Option Nat} (h:World H N S F M V) (hR:Row H 4 TrapU.cells L a) (hL:L.length≤9223372036854775807) :
  ∀ (j i:Nat) (w:Nat),i+j=L.length→∀ (k:AExit→St→Option (AVal × Heap)),
  xK T (.loop code182L0) ⟨[(0,.val (.ptr (some (N,0)))),(42,.val (.slice a L.length c)),(43,.val (.int .i64 L.length)),(44,.val (.int .i64 i))],⟨H,b,w⟩⟩ (k:=⟨k⟩) =
   if (L.drop i).all (trapOk S) then k (.exit 2) ⟨[],⟨H,b,w⟩⟩ else k .ret ⟨[(4,.val (.bool false))],⟨H,b,w⟩⟩
 | 0,i,w,hi,k=>by rw [ce,br (by omega)];simp (disch:=omega) [code182L0,iltF]
 | j+1,i,w,hi,k=>by
  obtain ⟨t,hx⟩:∃ t,L[i]? = some t:=⟨_,ah (by omega)⟩;obtain ⟨p,o,cs,rfl,hp,hpl,hcs,hv⟩:=jt hR hx
  have hd:L.drop i=t :: L.drop (i+1):=by have:=aj hx;rw [ah this] at hx;rw [eu this,dl hx]
  have h54:=fun w=>s54 (b:=b) (w:=w) h (c:=t.cls)
  have ih:=l182t (c:=c) h hR hL j (i+1) w (by omega) k;have e2:((i+1:Nat):Int)=(i:Int)+1:=by omega
  rw [e2] at ih;rw [ce,hd];simp only [dz];generalize ACode.loop code182L0=L' at ih ⊢;unfold TrapU.cells at hv;have ho:trapOk S t=(decide (t.cls=[]) || (gg S t.cls).isSome):=rfl;by_cases c0:t.cls=[]
  ·have ho:trapOk S t=true:=by rw [ho,c0]; rfl
   simp (disch:=omega) [-List.all_eq_true,gz,gs,code182L0,iltT,ileT,nltT,nleT,dg,hp,hv,c0,ho,ih]
  ·obtain ⟨x,c1⟩ | c1:(∃ x,gg S t.cls=some x)∨gg S t.cls=none:=by cases gg S t.cls <;> simp
   ·have ho:trapOk S t=true:=by rw [ho,c1]; simp
    simp (disch:=omega) [-List.all_eq_true,gz,gs,code182L0,h54,iltT,ileT,nltT,nleT,dg,hp,hv,c0,c1,ho,ih]
   ·have ho:trapOk S t=false:=by rw [ho,c1]; simp [c0]
    simp (disch:=omega) [-List.all_eq_true,gz,gs,code182L0,h54,iltT,ileT,nltT,nleT,dg,hp,hv,c0,c1,ho]
end
def rightS (S:List (Str × Str)) (m:MethU):Bool:=match methL m.desc with
 | some (A,r)=>isName m.name && ((A++[r]).all (thereS S) && m.traps.all (trapOk S))
 | none=>false
section
attribute [-simp] getElem?_pos getElem?_neg
attribute [local simp] gz gs
theorem s182 {m:MethU} (hm:m.ok O) (h:World O N S F M V) (hb:b≤O.length):xCall T 182 [.ptr (some (N,0)),.agg m.cells] ⟨O,b,w⟩=some (.bool (rightS S m),⟨O,b,w⟩):=by
 have hmd:m.desc.length≤9223372036854775807:=hm.desc;have h38:=fun w=>s38 (os:=O) (b:=b) (w:=w) (s:=m.desc) hmd hb
 have hml:m.traps.length≤9223372036854775807:=hm.tn;unfold rightS;cases hq:methL m.desc with
 | none =>
  rw [hq] at h38;simp only [methV,methO] at h38;unfold MethU.cells;simp (disch:=omega) [av t182,code182,h38]
 | some q =>
  obtain ⟨A,r⟩:=q;obtain ⟨q1,q2,q3⟩:=methL_len hq;have h181:=fun w X (hX:b≤(O++X).length)=>s181 (O:=O++X) (b:=b) (w:=w) (s:=m.name) hX
  simp only;cases A with
  | nil =>
   rw [hq] at h38;simp only [methV,methO] at h38;have h181:=fun w=>s181 (O:=O) (b:=b) (w:=w) (s:=m.name) hb
   have hl1:=fun w=>l182 (b:=b) (m:=m) (c:=none) (H:=O++[.cells 1 [.str r],.cells 1 [.str r]]) (L:=[r]) (a:=some (O.length+1,0)) (h.app _)
    ⟨fun _=>⟨_,_,_,rfl,by rw [d8]; rfl,fun j x hx=>by
     cases j with
     | zero=>simp at hx; subst hx; simp [dt]
     | succ j=>simp at hx⟩⟩ (by simp) (fun t ht=>by simp at ht; subst ht; omega) 1 0 w rfl
   have hl2:=fun w=>l182t (b:=b) (c:=m.tc) (H:=O++[.cells 1 [.str r],.cells 1 [.str r]]) (a:=m.ta) (h.app _) ((hm.pre (Pre.app _ _)).t) hml m.traps.length 0 w (by omega)
   simp only [bh,dy,f9,bg,bp,eh,Int.natCast_one] at hl1 hl2;simp only [bw];unfold MethU.cells at hl1 ⊢;cases c0:isName m.name with
   | false=>simp (disch:=omega) [-List.all_cons,-List.all_append,-List.all_eq_true,av t182,code182,h38,h181,d8,dj,ir,gv,hb,c0,]
   | true =>
    cases c1:([r]:List Str).all (thereS S) with
    | false =>
     simp only [c1,am,if_false] at hl1;simp (disch:=omega) [-List.all_cons,-List.all_append,-List.all_eq_true,av t182,code182,h38,h181,d8,dj,ir,gv,hb,c0,c1,hl1,]
    | true =>
     simp only [c1,if_true] at hl1;cases c2:m.traps.all (trapOk S) with
     | false =>
      simp only [c2,am,if_false] at hl2;simp (disch:=omega) [-List.all_cons,-List.all_append,-List.all_eq_true,av t182,code182,h38,h181,d8,dj,ir,gv,hb,c0,c1,c2,hl1,hl2,]
     | true =>
      simp only [c2,if_true] at hl2;simp (disch:=omega) [-List.all_cons,-List.all_append,-List.all_eq_true,av t182,code182,h38,h181,d8,dj,ir,gv,hb,c0,c1,c2,hl1,hl2,]
  | cons a A =>
   rw [hq] at h38;simp only [methV,methO] at h38;have h181:=fun w=>s181 (O:=O++[.cells 1 ((a :: A).map AVal.str)]) (b:=b) (w:=w) (s:=m.name) (by simp; omega)
   have hAl:A.length+1≤16:=by simpa using q1
   have hl1:=fun w=>l182 (b:=b) (m:=m) (c:=none) (H:=O++[.dead,.cells 1 [.str r],.cells 1 ((a :: A).map AVal.str++[.str r])]) (L:=a :: A++[r]) (a:=some (O.length+2,0)) (h.app _)
    (Row.mk0 (fun _=>rfl) (by rw [d8,iz,ut]; rfl)) (by simp; omega) (fun t ht=>by
     rcases bz.1 ht with ht | ht
     ·have:=q3 t ht; omega
     ·simp at ht; subst ht; omega) (A.length+2) 0 w (by simp)
   have hl2:=fun w=>l182t (b:=b) (c:=m.tc) (H:=O++[.dead,.cells 1 [.str r],.cells 1 ((a :: A).map AVal.str++[.str r])]) (a:=m.ta) (h.app _) ((hm.pre (Pre.app _ _)).t) hml m.traps.length 0 w (by omega)
   simp only [bh,dy,aq,bg,bp,bo,Nat.reduceAdd] at hl1 hl2;have hC:((a :: A).map AVal.str).length=A.length+1:=by simp
   have hT:((a :: A).map AVal.str).take (A.length+1)=(a :: A).map AVal.str:=ff (by simp);have z1:(A.length+2)*16≤140737488355328:=by omega
   have z2:A.length≤9223372036854775805:=by omega
   have hi2:((A.length+2:Nat):Int)=(A.length:Int)+2:=by omega
   rw [hi2] at hl1;generalize (a :: A).map AVal.str=C at h38 h181 hl1 hl2 hC hT;generalize a :: A++[r]=L at hl1 ⊢;unfold MethU.cells at hl1 ⊢;cases c0:isName m.name with
   | false=>simp (disch:=omega) [-List.all_cons,-List.all_append,-List.all_eq_true,av t182,code182,h38,h181,d8,dj,ir,gv,hb,c0,hAl,hC,hT,z1,z2,nltT,nltF,bo]
   | true =>
    cases c1:L.all (thereS S) with
    | false =>
     simp only [c1,am,if_false] at hl1;simp (disch:=omega) [-List.all_cons,-List.all_append,-List.all_eq_true,av t182,code182,h38,h181,d8,dj,ir,gv,hb,c0,c1,hl1,hAl,hC,hT,z1,z2,nltT,nltF,bo]
    | true =>
     simp only [c1,if_true] at hl1;cases c2:m.traps.all (trapOk S) with
     | false =>
      simp only [c2,am,if_false] at hl2;simp (disch:=omega) [-List.all_cons,-List.all_append,-List.all_eq_true,av t182,code182,h38,h181,d8,dj,ir,gv,hb,c0,c1,c2,hl1,hl2,hAl,hC,hT,z1,z2,nltT,nltF,bo]
     | true =>
      simp only [c2,if_true] at hl2;simp (disch:=omega) [-List.all_cons,-List.all_append,-List.all_eq_true,av t182,code182,h38,h181,d8,dj,ir,gv,hb,c0,c1,c2,hl1,hl2,hAl,hC,hT,z1,z2,nltT,nltF,bo]
end
end Go.Abs.Zh

namespace Go.Abs.Zh
open Go.Abs.Zd
variable {os O:List AObj} {b w:Nat} {N:Nat} {S:List (Str × Str)} {F M:List (Key × Mem)} {V:List (Key × Bool)}
def methE (c:Str) (m:MethU):Key × Mem:=((c,m.name,m.desc),⟨c,m.st⟩)
def methOk (S:List (Str × Str)) (M:List (Key × Mem)) (c:Str) (m:MethU):Bool:=!(gg M (c,m.name,m.desc)).isSome && rightS S m
def methsS (S:List (Str × Str)) (c:Str):List (Key × Mem)→List MethU→Bool
 | _,[]=>true
 | M,m :: r=>methOk S M c m && methsS S c (M++[methE c m]) r
section
attribute [-simp] getElem?_pos getElem?_neg
theorem l100 {u:UnitU} (hu:u.ok os) (hp:Pre os O) (hN:os.length≤N) (h:World O N S F M V) (hb:b≤N):∀ (j i:Nat) (M':List (Key × Mem)) (w:Nat),i+j=u.meths.length→N+3≤w →
  ∃ M2 w' e s',N+3≤w'∧(if methsS S u.name M' (u.meths.drop i) then e = .exit 0∧s'=[]∧(w'≤N+3∨(u.meths.drop i=[]∧w'=w))∧M2=M'++(u.meths.drop i).map (methE u.name) else e = .ret∧s'=[(4,.val (.bool false))]) ∧
   ∀ (k:AExit→St→Option (AVal × Heap)),
   xK T (.loop code100L0) ⟨[(0,.val (.ptr (some (N,0)))),(3,.var u.cells),(11,.val (.slice u.ma u.meths.length u.mc)),(12,.val (.int .i64 u.meths.length)),(13,.val (.int .i64 i))],
    ⟨O.set (N+3) (ft keyF memF M'),b,w⟩⟩ (k:=⟨k⟩)=k e ⟨s',⟨O.set (N+3) (ft keyF memF M2),b,w'⟩⟩
 | 0,i,M',w,hi,hw=>by
  refine ⟨M',w,.exit 0,[],hw,?_,fun k=>?_⟩
  ·rw [br (by omega)];simp only [methsS,if_true,f8,cq];exact ⟨trivial,trivial,.inr ⟨trivial,trivial⟩,trivial⟩
  ·rw [ce];simp (disch:=omega) [code100L0,iltF]
 | j+1,i,M',w,hi,hw=>by
  obtain ⟨m,hm⟩:∃ m,u.meths[i]? = some m:=⟨_,ah (by omega)⟩;obtain ⟨p,o,cs,ha,hpp,hpl,hcs,ht⟩:=jt hu.m hm;have hmn:u.meths.length≤9223372036854775807:=hu.mn
  have hd:u.meths.drop i=m :: u.meths.drop (i+1):=by have:=aj hm;rw [ah this] at hm;rw [eu this,dl hm]
  have hl:=h.lt;have hW:=h.setM M'
  have hpO:(O.set (N+3) (ft keyF memF M'))[p]? = some (.cells 8 cs):=by rw [au (by omega)]; exact hp _ _ hpp
  have hbO:b≤(O.set (N+3) (ft keyF memF M')).length:=by simp; omega
  have hmo:m.ok (O.set (N+3) (ft keyF memF M')):=(hu.mok m (bq hm)).pre (hp.set _ (by omega));have h182:=fun w=>s182 (b:=b) (w:=w) hmo hW hbO
  have hlk:=fun w=>ri (b:=b) (w:=w) (kn:=.agg [.s,.s,.s]) (zero:=.agg [.str [],.bool false]) yd hW.m3 (k:=(u.name,m.name,m.desc)) rfl
  have hm1:=hW.w0;have hml:m.cells.length=8:=rfl;have hup2:=fun w hg=>s9 (b:=b) (w:=w) (kn:=.agg [.s,.s,.s]) yd hW.m3 (k:=(u.name,m.name,m.desc)) ⟨u.name,m.st⟩ rfl (by omega) hg
  have hs2:(O.set (N+3) (ft keyF memF M')).set (N+3) (ft keyF memF (M'++[((u.name,m.name,m.desc),⟨u.name,m.st⟩)]))=O.set (N+3) (ft keyF memF (M'++[methE u.name m])):=by rw [List.set_set]; rfl
  simp only [hs2,keyF,memF] at hup2;simp only [keyF] at hlk;have hcm:m.cells=[.bool m.st,.str m.name,.str m.desc,.int .i64 m.stack,.int .i64 m.locals,.slice m.ca m.code.length m.cc,.slice m.ta m.traps.length m.tc,.slice m.xa m.maps.length m.xc]:=rfl;obtain ⟨y,hg⟩ | hg:(∃ y,gg M' (u.name,m.name,m.desc)=some y)∨gg M' (u.name,m.name,m.desc)=none:=by cases gg M' (u.name,m.name,m.desc) <;> simp
  ·rw [hg] at hlk;simp only [cf,cr,Option.isSome_some,memF] at hlk;have hfl:methsS S u.name M' (u.meths.drop i)=false:=by rw [hd]; simp [methsS,methOk,hg]
   rw [hfl];refine ⟨M',w,.ret,[(4,.val (.bool false))],hw,by simp,fun k=>?_⟩;rw [ce];generalize ACode.loop code100L0=L;generalize O.set (N+3) (ft keyF memF M')=H at hpO hW hbO h182 hlk hm1 ⊢;rw [hcm] at h182 ht;simp (disch:=omega) [-dm,gz,gs,code100L0,hlk,nltT,nltF,iltT,ileT,nleT,dg,hb,hpO,ht,ha,hm1,UnitU.cells]
  ·rw [hg] at hlk;have hup2:=fun w=>hup2 w hg
   simp only [Option.map_none,li,lj] at hlk;rcases aw (rightS S m) with c | c
   ·obtain ⟨M2,w',e,s',r1,r2,ih⟩:=l100 hu hp hN h hb j (i+1) (M'++[methE u.name m]) (min w (N+3)) (by omega) (by omega);refine ⟨M2,w',e,s',r1,?_,fun k=>?_⟩
    ·rw [hd];have c1:methOk S M' u.name m=true:=by simp [methOk,hg,c]
     simp only [methsS,c1,dh];rw [b0];rw [bl,List.singleton_append] at r2;split at r2
     ·rename_i hff;obtain ⟨q1,q2,q3,q4⟩:=r2;rw [if_pos hff];refine ⟨q1,q2,.inl ?_,q4⟩;rcases q3 with q3 | ⟨_,q3⟩ <;> omega
     ·rename_i hff;rw [if_neg hff]; exact r2
    have ih:=ih k;have e2:((i+1:Nat):Int)=(i:Int)+1:=by omega
    rw [e2] at ih;rw [ce,← ih];generalize ACode.loop code100L0=L;generalize O.set (N+3) (ft keyF memF M')=H at hpO hW hbO h182 hlk hm1 hup2 hs2 ⊢;generalize O.set (N+3) (ft keyF memF (M'++[methE u.name m]))=H2 at hup2 hs2 ⊢;rw [hcm] at h182 ht;simp (disch:=omega) [-dm,gz,gs,code100L0,h182,hlk,hup2,c,nltT,nltF,iltT,ileT,nleT,dg,hb,hpO,ht,ha,hm1,UnitU.cells]
   ·have hfl:methsS S u.name M' (u.meths.drop i)=false:=by rw [hd]; simp [methsS,methOk,c]
    rw [hfl];refine ⟨M',w,.ret,[(4,.val (.bool false))],hw,by simp,fun k=>?_⟩;rw [ce];generalize ACode.loop code100L0=L;generalize O.set (N+3) (ft keyF memF M')=H at hpO hW hbO h182 hlk hm1 ⊢;rw [hcm] at h182 ht;simp (disch:=omega) [-dm,gz,gs,code100L0,h182,hlk,nltT,nltF,iltT,ileT,nleT,dg,hb,hpO,ht,ha,hm1,c,UnitU.cells]
end
theorem mObj_set3 (h:World O N S F M V):O.set (N+3) (ft keyF memF M)=O:=by
 have:=h.lt;refine me fun i=>?_
 by_cases e:N+3=i
 ·subst e; rw [de,if_pos rfl,if_pos (by omega),h.m3]
 ·rw [au e]
section
attribute [-simp] getElem?_pos getElem?_neg
attribute [local simp] gz gs
theorem s100 {u:UnitU} (hu:u.ok os) (hp:Pre os O) (hN:os.length≤N) (h:World O N S F M V) (hb:b≤N) :
  ∃ O' w',min w (N+3)≤w'∧(methsS S u.name M u.meths=true→O'=O.set (N+3) (ft keyF memF (M++u.meths.map (methE u.name)))) ∧
   xCall T 100 [.ptr (some (N,0)),.agg u.cells] ⟨O,b,w⟩=some (.bool (methsS S u.name M u.meths),⟨O',b,w'⟩):=by
 have hl:=h.lt;obtain ⟨M2,w',e,s',r1,r2,hk⟩:=l100 hu hp hN h hb u.meths.length 0 M O.length (by omega) (by omega);rw [mObj_set3 h] at hk;simp only [bh,dy] at hk r2;by_cases c:methsS S u.name M u.meths=true
 ·rw [if_pos c] at r2;obtain ⟨rfl,rfl,q3,q4⟩:=r2;rw [c];rcases q3 with q3 | ⟨q3,q5⟩
  ·refine ⟨O.set (N+3) (ft keyF memF M2),min w w',by omega,fun _=>by rw [q4],?_⟩;unfold UnitU.cells at hk ⊢;simp (disch:=omega) [av t100,code100,hk,nltT]
  ·refine ⟨O,w,by omega,fun _=>by rw [q3,f8,cq,mObj_set3 h],?_⟩;unfold UnitU.cells at hk ⊢;simp (disch:=omega) [av t100,code100,hk,nltF]
 ·rw [if_neg c] at r2;obtain ⟨rfl,rfl⟩:=r2;have c':methsS S u.name M u.meths=false:=by simpa using c
  rw [c'];generalize O.set (N+3) (ft keyF memF M2)=O2 at hk;refine ⟨if w' < O.length then O2 else O,if w' < O.length then min w w' else w,by split <;> omega,by simp,?_⟩;unfold UnitU.cells at hk ⊢;simp (disch:=omega) [av t100,code100,hk];split <;> rfl
end
end Go.Abs.Zh

namespace Go.Abs.Zh
open Go.Abs.Zd
variable {os O:List AObj} {b w:Nat} {N:Nat}
def sysT:Str:=[115,121,115]
def throwT:Str:=[84,104,114,111,119,97,98,108,101]
def faultsL:List Str:=[[78,117,108,108,70,97,117,108,116],[66,111,117,110,100,115,70,97,117,108,116],[77,97,116,104,70,97,117,108,116],[67,97,115,116,70,97,117,108,116],[83,105,122,101,70,97,117,108,116],[83,116,111,114,101,70,97,117,108,116]]
def natL:List (Str × Str):=[([112,114,105,110,116],[40,73,41,86]),([112,114,105,110,116,76,111,110,103],[40,74,41,86]),([112,114,105,110,116,84,101,120,116],[40,91,66,41,86]),([97,100,100],[40,91,66,41,73]),
 ([103,101,116],[40,73,41,91,66]),([115,101,116],[40,73,91,66,41,86]),([100,101,108],[40,73,41,86]),([99,111,117,110,116],[40,41,73])]
def builtS:List (Str × Str):=[(objectT,[]),(throwT,objectT),(sysT,objectT)]++faultsL.map fun n=>(n,throwT)
def builtM:List (Key × Mem):=natL.map fun x=>((sysT,x.1,x.2),⟨sysT,true⟩)
def builtV:List (Key × Bool):=natL.map fun x=>((sysT,x.1,x.2),true)
theorem s179 {h:Heap}:xCall T 179 [] h=some (.agg (natL.flatMap fun x=>[.str x.1,.str x.2]),h):=by obtain ⟨os,b,w⟩:=h;simp [av t179,code179,natL]
def S0:List (Str × Str):=[(objectT,[]),(throwT,objectT),(sysT,objectT)]
def fE (n:Str):Str × Str:=(n,throwT)
def nE (x:Str × Str):Key × Mem:=((sysT,x.1,x.2),⟨sysT,true⟩)
def vE (x:Str × Str):Key × Bool:=((sysT,x.1,x.2),true)
def bO (os:List AObj) (S:List (Str × Str)) (M:List (Key × Mem)) (V:List (Key × Bool)):List AObj :=
 os++[ft .str .str S,ft keyF memF [],ft keyF memF M,ft keyF .bool V,.cells 4 [.map (some os.length),.map (some (os.length+1)),.map (some (os.length+2)),.map (some (os.length+3))]]
theorem faults_new:∀ i,i < 6→gg (S0++(faultsL.take i).map fE) (faultsL.getD i [])=none:=by decide +kernel
theorem nats_newM:∀ i,i < 8→gg ((natL.take i).map nE) (sysT,(natL.getD i ([],[])).1,(natL.getD i ([],[])).2)=none:=by decide +kernel
theorem nats_newV:∀ i,i < 8→gg ((natL.take i).map vE) (sysT,(natL.getD i ([],[])).1,(natL.getD i ([],[])).2)=none:=by decide +kernel
theorem pu {α:Type} {L:List α} {i:Nat} {x:α} (h:L[i]? = some x):L.take (i+1)=L.take i++[x]:=by rw [List.take_add_one,h]; rfl
theorem bO_upS {S:List (Str × Str)} {M:List (Key × Mem)} {V:List (Key × Bool)} {x y:Str} (hb:b≤os.length) (hg:gg S x=none) :
  dm (.mapupd (.one .s)) [.map (some os.length),.str x,.str y] ⟨bO os S M V,b,w⟩=some (.tuple [],⟨bO os (S++[(x,y)]) M V,b,min w os.length⟩):=by
 have:=s9 (os:=bO os S M V) (b:=b) (w:=w) (r:=os.length) (A:=S) (vf:=AVal.str) (kn:=.one .s) vu (by unfold bO; rw [dj]; rfl) (k:=x) y rfl hb hg;rw [this];unfold bO;rw [gv]; rfl
theorem bO_upM {S:List (Str × Str)} {M:List (Key × Mem)} {V:List (Key × Bool)} {x:Str × Str} (hb:b≤os.length) (hg:gg M (sysT,x.1,x.2)=none) :
  dm (.mapupd (.agg [.s,.s,.s])) [.map (some (os.length+2)),.agg [.str sysT,.str x.1,.str x.2],.agg [.str sysT,.bool true]] ⟨bO os S M V,b,w⟩=some (.tuple [],⟨bO os S (M++[nE x]) V,b,min w (os.length+2)⟩):=by
 have:=s9 (os:=bO os S M V) (b:=b) (w:=w) (r:=os.length+2) (A:=M) (vf:=memF) (kn:=.agg [.s,.s,.s]) yd (by unfold bO; rw [d8]; rfl) (k:=(sysT,x.1,x.2)) ⟨sysT,true⟩ rfl (by omega) hg;rw [show AVal.agg [.str sysT,.str x.1,.str x.2]=keyF (sysT,x.1,x.2) from rfl,show AVal.agg [.str sysT,.bool true]=memF ⟨sysT,true⟩ from rfl,this];unfold bO;rw [ir]; rfl
theorem bO_upV {S:List (Str × Str)} {M:List (Key × Mem)} {V:List (Key × Bool)} {x:Str × Str} (hb:b≤os.length) (hg:gg V (sysT,x.1,x.2)=none) :
  dm (.mapupd (.agg [.s,.s,.s])) [.map (some (os.length+3)),.agg [.str sysT,.str x.1,.str x.2],.bool true] ⟨bO os S M V,b,w⟩=some (.tuple [],⟨bO os S M (V++[vE x]),b,min w (os.length+3)⟩):=by
 have:=s9 (os:=bO os S M V) (b:=b) (w:=w) (r:=os.length+3) (A:=V) (vf:=AVal.bool) (kn:=.agg [.s,.s,.s]) yd (by unfold bO; rw [d8]; rfl) (k:=(sysT,x.1,x.2)) true rfl (by omega) hg;rw [show AVal.agg [.str sysT,.str x.1,.str x.2]=keyF (sysT,x.1,x.2) from rfl,this];unfold bO;rw [ir]; rfl
theorem bO_w {S:List (Str × Str)} {M:List (Key × Mem)} {V:List (Key × Bool)}:(bO os S M V)[os.length+4]? = some (.cells 4 [.map (some os.length),.map (some (os.length+1)),.map (some (os.length+2)),.map (some (os.length+3))]):=by unfold bO; rw [d8]; rfl
section
attribute [-simp] getElem?_pos getElem?_neg
theorem l284a (hb:b≤os.length):∀ (j i:Nat) (w:Nat),i+j=6→os.length≤w→∃ w',os.length≤w'∧∀ (k:AExit→St→Option (AVal × Heap)),
  xK T (.loop code284L1) ⟨[(1,.val (.ptr (some (os.length+4,0)))),(14,.val (.agg (faultsL.map AVal.str))),(15,.val (.int .i64 i))],⟨bO os (S0++(faultsL.take i).map fE) [] [],b,w⟩⟩ (k:=⟨k⟩) =
   k (.exit 0) ⟨[(1,.val (.ptr (some (os.length+4,0))))],⟨bO os (S0++faultsL.map fE) [] [],b,w'⟩⟩
 | 0,i,w,hi,hw=>by
  refine ⟨w,hw,fun k=>?_⟩;have:i=6:=by omega
  subst this;rw [ce,ff (by decide)];simp (disch:=omega) [code284L1,iltF]
 | j+1,i,w,hi,hw=>by
  obtain ⟨x,hx⟩:∃ x,faultsL[i]? = some x:=⟨_,ah (show i < faultsL.length by rw [show faultsL.length=6 from rfl]; omega)⟩;have hn:=faults_new i (by omega);rw [gi,hx,cr] at hn;have hup:=fun w=>bO_upS (w:=w) (M:=[]) (V:=[]) (y:=throwT) hb hn
  have ht:=pu hx;have e3:S0++(faultsL.take i).map fE++[(x,throwT)]=S0++(faultsL.take (i+1)).map fE:=by rw [ht,jp,bl]; rfl
  rw [e3] at hup;unfold throwT at hup;obtain ⟨w',hw',ih⟩:=l284a hb j (i+1) (min w os.length) (by omega) (by omega);refine ⟨w',hw',fun k=>?_⟩;have ih:=ih k;have e2:((i+1:Nat):Int)=(i:Int)+1:=by omega
  rw [e2] at ih;have hwo:=bO_w (os:=os) (S:=S0++(faultsL.take i).map fE) (M:=[]) (V:=[]);have hxs:(faultsL.map AVal.str)[i]? = some (.str x):=by rw [db,hx]; rfl
  rw [ce,← ih];generalize ACode.loop code284L1=L;generalize faultsL.map AVal.str=fs at hxs ⊢;generalize bO os (S0++(faultsL.take i).map fE) [] []=H at hup hwo ⊢;generalize bO os (S0++(faultsL.take (i+1)).map fE) [] []=H2 at hup ⊢;simp (disch:=omega) [-dm,gz,gs,code284L1,hup,hwo,hxs,iltT,ileT,nltT,nltF,nleT,dg]
theorem l284b {S:List (Str × Str)} (hb:b≤os.length):∀ (j i:Nat) (w:Nat),i+j=8→os.length≤w→∃ w',os.length≤w'∧∀ (k:AExit→St→Option (AVal × Heap)),
  xK T (.loop code284L0) ⟨[(1,.val (.ptr (some (os.length+4,0)))),(24,.val (.agg (natL.flatMap fun x=>[.str x.1,.str x.2]))),(25,.val (.int .i64 i))],⟨bO os S ((natL.take i).map nE) ((natL.take i).map vE),b,w⟩⟩ (k:=⟨k⟩) =
   k (.exit 2) ⟨[(1,.val (.ptr (some (os.length+4,0))))],⟨bO os S (natL.map nE) (natL.map vE),b,w'⟩⟩
 | 0,i,w,hi,hw=>by
  refine ⟨w,hw,fun k=>?_⟩;have:i=8:=by omega
  subst this;rw [ce,ff (by decide)];simp (disch:=omega) [code284L0,iltF]
 | j+1,i,w,hi,hw=>by
  obtain ⟨x,hx⟩:∃ x,natL[i]? = some x:=⟨_,ah (show i < natL.length by rw [show natL.length=8 from rfl]; omega)⟩;have hn:=nats_newM i (by omega);rw [gi,hx,cr] at hn;have hn2:=nats_newV i (by omega);rw [gi,hx,cr] at hn2;have hup:=fun w=>bO_upM (w:=w) (S:=S) (V:=(natL.take i).map vE) hb hn
  have hup2:=fun w=>bO_upV (w:=w) (S:=S) (M:=(natL.take (i+1)).map nE) hb hn2
  have ht:=pu hx;have e3:(natL.take i).map nE++[nE x]=(natL.take (i+1)).map nE:=by rw [ht,jp]; rfl
  have e4:(natL.take i).map vE++[vE x]=(natL.take (i+1)).map vE:=by rw [ht,jp]; rfl
  rw [e3] at hup;rw [e4] at hup2;unfold sysT at hup hup2;obtain ⟨w',hw',ih⟩:=l284b (S:=S) hb j (i+1) (min (min w (os.length+2)) (os.length+3)) (by omega) (by omega);refine ⟨w',hw',fun k=>?_⟩;have ih:=ih k;have e2:((i+1:Nat):Int)=(i:Int)+1:=by omega
  rw [e2] at ih;have hwo:=bO_w (os:=os) (S:=S) (M:=(natL.take i).map nE) (V:=(natL.take i).map vE);have hwo2:=bO_w (os:=os) (S:=S) (M:=(natL.take (i+1)).map nE) (V:=(natL.take i).map vE);obtain ⟨hx1,hx2⟩:=flat_at (fun x:Str × Str=>[AVal.str x.1,AVal.str x.2]) 2 (fun _=>rfl) natL i x hx;have hln:(natL.flatMap fun x:Str × Str=>[AVal.str x.1,AVal.str x.2]).length=16:=rfl;rw [ce,← ih];generalize ACode.loop code284L0=L;generalize (natL.flatMap fun x:Str × Str=>[AVal.str x.1,AVal.str x.2])=fs at hx1 hx2 hln ⊢;generalize bO os S ((natL.take i).map nE) ((natL.take i).map vE)=H at hup hwo ⊢;generalize bO os S ((natL.take (i+1)).map nE) ((natL.take i).map vE)=H2 at hup hup2 hwo2 ⊢;generalize bO os S ((natL.take (i+1)).map nE) ((natL.take (i+1)).map vE)=H3 at hup2 ⊢;simp (disch:=omega) [-dm,gz,gs,code284L0,hup,hup2,hwo,hwo2,hx2,iltT,ileT,nltT,nltF,nleT,dg]
end
theorem ents_ids {κ ν:Type} {kf:κ→AVal} {vf:ν→AVal} (hk:∀ k,(kf k).ids=[]) (hv:∀ v,(vf v).ids=[]):∀ (A:List (κ × ν)) (i:Nat),((ents kf vf i A).flatMap fun (k,v,_)=>k.ids++v.ids)=[]
 | [],_=>rfl
 | x :: A,i=>by simp only [ents,cj,hk,hv,ents_ids hk hv A (i+1),cq]
theorem ents_ren {κ ν:Type} {kf:κ→AVal} {vf:ν→AVal} {f:Nat→Nat} (hk:∀ k,(kf k).ren f=kf k) (hv:∀ v,(vf v).ren f=vf v):∀ (A:List (κ × ν)) (i:Nat),((ents kf vf i A).map fun (k,v,b)=>(k.ren f,v.ren f,b))=ents kf vf i A
 | [],_=>rfl
 | x :: A,i=>by simp only [ents,b0,hk,hv,ents_ren hk hv A (i+1)]
theorem zbh {κ ν:Type} {kf:κ→AVal} {vf:ν→AVal} (hk:∀ k,(kf k).ids=[]) (hv:∀ v,(vf v).ids=[]) (A:List (κ × ν)):(ft kf vf A).ids=[]:=by simp only [ft,AObj.ids]; exact ents_ids hk hv A 0
theorem zbi {κ ν:Type} {kf:κ→AVal} {vf:ν→AVal} {f:Nat→Nat} (hk:∀ k,(kf k).ren f=kf k) (hv:∀ v,(vf v).ren f=vf v) (A:List (κ × ν)):(ft kf vf A).ren f=ft kf vf A:=by simp only [ft,AObj.ren,ents_ren hk hv A 0]
theorem idsS (A:List (Str × Str)):(ft AVal.str AVal.str A).ids=[]:=zbh (fun _=>rfl) (fun _=>rfl) A
theorem idsM (A:List (Key × Mem)):(ft keyF memF A).ids=[]:=zbh (fun _=>rfl) (fun _=>rfl) A
theorem idsV (A:List (Key × Bool)):(ft keyF AVal.bool A).ids=[]:=zbh (fun _=>rfl) (fun _=>rfl) A
theorem renS (f:Nat→Nat) (A:List (Str × Str)):(ft AVal.str AVal.str A).ren f=ft AVal.str AVal.str A:=zbi (fun _=>rfl) (fun _=>rfl) A
theorem renM (f:Nat→Nat) (A:List (Key × Mem)):(ft keyF memF A).ren f=ft keyF memF A:=zbi (fun _=>rfl) (fun _=>rfl) A
theorem renV (f:Nat→Nat) (A:List (Key × Bool)):(ft keyF AVal.bool A).ren f=ft keyF AVal.bool A:=zbi (fun _=>rfl) (fun _=>rfl) A
def wO (os:List AObj) (S:List (Str × Str)) (F M:List (Key × Mem)) (V:List (Key × Bool)):List AObj :=
 os++[.cells 4 [.map (some (os.length+1)),.map (some (os.length+2)),.map (some (os.length+3)),.map (some (os.length+4))],ft .str .str S,ft keyF memF F,ft keyF memF M,ft keyF .bool V]
theorem xg (os:List AObj) (S:List (Str × Str)) (F M:List (Key × Mem)) (V:List (Key × Bool)):World (wO os S F M V) os.length S F M V:=by
 unfold wO;constructor
 ·rw [dj]; rfl
 ·rw [d8]; rfl
 ·rw [d8]; rfl
 ·rw [d8]; rfl
 ·rw [d8]; rfl
section
attribute [-simp] getElem?_pos getElem?_neg
theorem built_fin {S:List (Str × Str)} {M:List (Key × Mem)} {V:List (Key × Bool)} {w2:Nat} (hw:os.length≤w2) :
  dx ⟨os,b,w⟩ (.ptr (some (os.length+4,0))) ⟨bO os S M V,b,w2⟩=(.ptr (some (os.length,0)),⟨wO os S [] M V,b,w⟩):=by
 have g4:=bO_w (os:=os) (S:=S) (M:=M) (V:=V);have g0:(bO os S M V)[os.length]? = some (ft .str .str S):=by unfold bO; rw [dj]; rfl
 have g1:(bO os S M V)[os.length+1]? = some (ft keyF memF []):=by unfold bO; rw [d8]; rfl
 have g2:(bO os S M V)[os.length+2]? = some (ft keyF memF M):=by unfold bO; rw [d8]; rfl
 have g3:(bO os S M V)[os.length+3]? = some (ft keyF .bool V):=by unfold bO; rw [d8]; rfl
 have idsC:∀ e cs,(AObj.cells e cs).ids=AVal.idsL cs:=fun _ _=>rfl
 have renC:∀ (f:Nat→Nat) e cs,(AObj.cells e cs).ren f = .cells e (AVal.renL f cs):=fun _ _ _=>rfl
 have hr:reach ⟨bO os S M V,b,w2⟩ os.length 1000 [os.length+4] []=[os.length+4,os.length,os.length+1,os.length+2,os.length+3]:=by simp (disch:=omega) [-AObj.ids,jc,lb,nltF,g0,g1,g2,g3,g4,idsS,idsM,idsV,idsC]
 have hv:AVal.under os.length (.ptr (some (os.length+4,0)))=false:=by simp [AVal.under]
 have hw2:(⟨os,b,w⟩:Heap).size≤(⟨bO os S M V,b,w2⟩:Heap).wmin:=hw;refine (nk hw2 hv hr fun i hi=>?_).trans ?_
 ·simp (disch:=omega) only [AVal.ids,cj,ju,b0,Heap.get,g0,g1,g2,g3,g4,idsS,idsM,idsV,idsC,cf,cr,ci,bw,cq,AVal.idsL,cg,fo,or_false] at hi ⊢;omega
 ·simp (disch:=omega) [-AObj.ids,-AObj.ren,nltF,g0,g1,g2,g3,g4,renS,renM,renV,renC,wO]
end
theorem s284 (hb:b≤os.length):xCall T 284 [] ⟨os,b,w⟩=some (.ptr (some (os.length,0)),⟨wO os builtS [] builtM builtV,b,w⟩):=by
 obtain ⟨w1,hw1,hk1⟩:=l284a (os:=os) hb 6 0 os.length rfl (ai _);have e1:S0++faultsL.map fE=builtS:=rfl;rw [e1] at hk1;obtain ⟨w2,hw2,hk2⟩:=l284b (os:=os) (S:=builtS) hb 8 0 w1 rfl hw1;simp only [bh,List.take_zero,f8,cq] at hk1 hk2;have g0:(bO os builtS (natL.map nE) (natL.map vE))=bO os builtS builtM builtV:=rfl;rw [g0] at hk2;have hfin:=built_fin (b:=b) (w:=w) (S:=builtS) (M:=builtM) (V:=builtV) hw2;have h179:=fun h=>s179 (h:=h)
 generalize hH1:bO os builtS [] []=H1 at hk1 hk2;generalize (natL.flatMap fun x:Str × Str=>[AVal.str x.1,AVal.str x.2])=fs at hk2 h179
 have hS0:bO os S0 [] []=os++[.map [(.str [79,98,106,101,99,116],.str [],0),(.str [84,104,114,111,119,97,98,108,101],.str [79,98,106,101,99,116],1),(.str [115,121,115],.str [79,98,106,101,99,116],2)] 3,.map [] 0,.map [] 0,.map [] 0,
  .cells 4 [.map (some os.length),.map (some (os.length+1)),.map (some (os.length+2)),.map (some (os.length+3))]]:=rfl
 have hfl:faultsL.map AVal.str=[.str [78,117,108,108,70,97,117,108,116],.str [66,111,117,110,100,115,70,97,117,108,116],.str [77,97,116,104,70,97,117,108,116],.str [67,97,115,116,70,97,117,108,116],.str [83,105,122,101,70,97,117,108,116],.str [83,116,111,114,101,70,97,117,108,116]]:=rfl;rw [hS0,hfl] at hk1;simp (disch:=omega) [-getElem?_pos,-getElem?_neg,-dx,gz,gs,av t284,code284,hk1,hk2,hfin,h179,d8,dj,ir,gv,hb,findA,akey,akey1,isKey,CK.is,bo]
end Go.Abs.Zh

namespace Go.Abs.Zh
open Go.Abs.Zd
variable {os O:List AObj} {b w:Nat} {N:Nat} {S:List (Str × Str)} {F M:List (Key × Mem)} {V:List (Key × Bool)}
theorem idsC (e:Nat) (cs:List AVal):(AObj.cells e cs).ids=AVal.idsL cs:=rfl
theorem renC (f:Nat→Nat) (e:Nat) (cs:List AVal):(AObj.cells e cs).ren f = .cells e (AVal.renL f cs):=rfl
section
attribute [-simp] getElem?_pos getElem?_neg
theorem world_fin (h:World O os.length S F M V) (w0:Nat) {w2:Nat} (hw:os.length≤w2) :
  dx ⟨os,b,w0⟩ (.tuple [.ptr (some (os.length,0)),.int .i64 0]) ⟨O,b,w2⟩=(.tuple [.ptr (some (os.length,0)),.int .i64 0],⟨wO os S F M V,b,w0⟩):=by
 have g0:=h.w0;have g1:=h.m1;have g2:=h.m2;have g3:=h.m3;have g4:=h.m4
 have hr:reach ⟨O,b,w2⟩ os.length 1000 [os.length] []=[os.length,os.length+1,os.length+2,os.length+3,os.length+4]:=by simp (disch:=omega) [-AObj.ids,jc,lb,nltF,g0,g1,g2,g3,g4,idsS,idsM,idsV,idsC]
 have hv:AVal.under os.length (.tuple [.ptr (some (os.length,0)),.int .i64 0])=false:=by simp [AVal.under]
 have hw2:(⟨os,b,w0⟩:Heap).size≤(⟨O,b,w2⟩:Heap).wmin:=hw;refine (nk hw2 hv hr fun i hi=>?_).trans ?_
 ·simp (disch:=omega) only [AVal.ids,cj,ju,b0,Heap.get,g0,g1,g2,g3,g4,idsS,idsM,idsV,idsC,cf,cr,ci,bw,cq,AVal.idsL,cg,fo,or_false] at hi ⊢;omega
 ·simp (disch:=omega) [-AObj.ids,-AObj.ren,nltF,g0,g1,g2,g3,g4,renS,renM,renV,renC,wO]
end
def superOk (S:List (Str × Str)) (u:UnitU):Bool:=!(gg S u.name).isSome && im u.name && !decide (u.super=sysT)
def supersS:List (Str × Str)→List UnitU→Option (List (Str × Str))
 | S,[]=>some S
 | S,u :: r=>if superOk S u then supersS (S++[(u.name,u.super)]) r else none
theorem wO_upS {x y:Str} (hb:b≤os.length) (hg:gg S x=none) :
  dm (.mapupd (.one .s)) [.map (some (os.length+1)),.str x,.str y] ⟨wO os S F M V,b,w⟩=some (.tuple [],⟨wO os (S++[(x,y)]) F M V,b,min w (os.length+1)⟩):=by
 have:=s9 (os:=wO os S F M V) (b:=b) (w:=w) (r:=os.length+1) (A:=S) (vf:=AVal.str) (kn:=.one .s) vu (xg os S F M V).m1 (k:=x) y rfl (by omega) hg;rw [this];unfold wO;rw [ir]; rfl
theorem wO_pre (os:List AObj) (S:List (Str × Str)) (F M:List (Key × Mem)) (V:List (Key × Bool)):Pre os (wO os S F M V):=Pre.app _ _
section
attribute [-simp] getElem?_pos getElem?_neg
theorem l49a {l:List UnitU} {a:Option (Nat × Nat)} {c:Option Nat} (hR:Row os 4 UnitU.cells l a) (hl:l.length≤32) (hb:b≤os.length):∀ (j i:Nat) (S:List (Str × Str)) (w:Nat),i+j=l.length→os.length≤w →
  ∃ S' w' e s',os.length≤w'∧(match supersS S (l.drop i) with
   | some S2=>S'=S2∧e = .exit 0∧s'=[(0,.val (.slice a l.length c)),(4,.val (.ptr (some (os.length,0))))]
   | none=>e = .ret∧s'=[(2,.val (.ptr none)),(3,.val (.int .i64 15))])∧∀ (k:AExit→St→Option (AVal × Heap)),
   xK T (.loop code49L2) ⟨[(0,.val (.slice a l.length c)),(4,.val (.ptr (some (os.length,0)))),(15,.val (.slice a l.length c)),(16,.val (.int .i64 l.length)),(17,.val (.int .i64 i))],⟨wO os S F M V,b,w⟩⟩ (k:=⟨k⟩) =
   k e ⟨s',⟨wO os S' F M V,b,w'⟩⟩
 | 0,i,S,w,hi,hw=>by
  refine ⟨S,w,.exit 0,[(0,.val (.slice a l.length c)),(4,.val (.ptr (some (os.length,0))))],hw,?_,fun k=>?_⟩
  ·rw [br (by omega)];exact ⟨rfl,rfl,rfl⟩
  ·rw [ce];simp (disch:=omega) [code49L2,iltF]
 | j+1,i,S,w,hi,hw=>by
  obtain ⟨u,hu⟩:∃ u,l[i]? = some u:=⟨_,ah (by omega)⟩;obtain ⟨p,o,cs,rfl,hpp,hpl,hcs,ht⟩:=jt hR hu
  have hd:l.drop i=u :: l.drop (i+1):=by have:=aj hu;rw [ah this] at hu;rw [eu this,dl hu]
  have hW:=xg os S F M V;have hpO:=wO_pre os S F M V _ _ hpp;have hbO:b≤(wO os S F M V).length:=by simp [wO]; omega
  have h54:=fun w=>s54 (b:=b) (w:=w) hW (c:=u.name)
  have h25:=fun w=>s25 (os:=wO os S F M V) (b:=b) (w:=w) (s:=u.name) hbO
  have hup:=fun w hg=>wO_upS (S:=S) (F:=F) (M:=M) (V:=V) (w:=w) (x:=u.name) (y:=u.super) hb hg
  have hw0:=hW.w0;have hcu:u.cells=[.str u.name,.str u.super,.slice u.fa u.fields.length u.fc,.slice u.ma u.meths.length u.mc]:=rfl;rw [hcu] at ht;rw [hd];rcases aw (superOk S u) with c0 | c0
  ·have hc:=c0;unfold superOk sysT at hc;simp only [az,gc,decide_eq_false_iff_not] at hc;obtain ⟨⟨c1,c2⟩,c3⟩:=hc;have hg:gg S u.name=none:=by simpa using c1
   have hup:=fun w=>hup w hg
   obtain ⟨S',w',e,s',r1,r2,ih⟩:=l49a (c:=c) hR hl hb j (i+1) (S++[(u.name,u.super)]) (min w (os.length+1)) (by omega) (by omega);refine ⟨S',w',e,s',r1,by simp only [supersS,c0,if_true]; exact r2,fun k=>?_⟩;have ih:=ih k;have e2:((i+1:Nat):Int)=(i:Int)+1:=by omega
   rw [e2] at ih;rw [ce,← ih];generalize ACode.loop code49L2=L;generalize wO os (S++[(u.name,u.super)]) F M V=H2 at hup ⊢;generalize wO os S F M V=H at hpO h54 h25 hup hw0 ⊢;simp (disch:=omega) [-dm,gz,gs,code49L2,h54,h25,hup,hw0,nltT,nltF,iltT,ileT,nleT,dg,hpO,ht,hg,c2,c3]
  ·refine ⟨S,w,.ret,[(2,.val (.ptr none)),(3,.val (.int .i64 15))],hw,by simp only [supersS,c0]; exact ⟨trivial,trivial⟩,fun k=>?_⟩;unfold superOk sysT at c0;rw [ce];generalize ACode.loop code49L2=L;generalize wO os S F M V=H at hpO h54 h25 hw0 ⊢;cases c1:(gg S u.name).isSome with
   | true=>simp (disch:=omega) [-dm,gz,gs,code49L2,h54,h25,hw0,nltT,nltF,iltT,ileT,nleT,dg,hpO,ht,c1]
   | false =>
    cases c2:im u.name with
    | false=>simp (disch:=omega) [-dm,gz,gs,code49L2,h54,h25,hw0,nltT,nltF,iltT,ileT,nleT,dg,hpO,ht,c1,c2]
    | true =>
     by_cases c3:u.super=[115,121,115]
     ·simp (disch:=omega) [-dm,gz,gs,code49L2,h54,h25,hw0,nltT,nltF,iltT,ileT,nleT,dg,hpO,ht,c1,c2,c3]
     ·rw [c1,c2,decide_eq_false c3] at c0; cases c0
end
def unitOk (S:List (Str × Str)) (M:List (Key × Mem)) (u:UnitU):Bool:=endsS S u.name && fieldsS S [] u.fields && methsS S u.name M u.meths
def membersS (S:List (Str × Str)):List (Key × Mem)→List (Key × Mem)→List UnitU→Option (List (Key × Mem) × List (Key × Mem))
 | F,M,[]=>some (F,M)
 | F,M,u :: r=>if unitOk S M u then membersS S (F++u.fields.map (fieldE u.name)) (M++u.meths.map (methE u.name)) r else none
section
attribute [-simp] getElem?_pos getElem?_neg
theorem l49b {l:List UnitU} {a:Option (Nat × Nat)} {c:Option Nat} (hR:Row os 4 UnitU.cells l a) (hok:∀ u ∈ l,u.ok os) (hl:l.length≤32) (hb:b≤os.length) (hS:S.length≤9223372036854775807) (hnd:(l.map UnitU.name).Nodup) :
  ∀ (j i:Nat) (O:List AObj) (F M:List (Key × Mem)) (w:Nat),i+j=l.length→os.length≤w→World O os.length S F M V→Pre os O→(∀ x ∈ F,∀ u ∈ l.drop i,x.1.1≠u.name) →
  ∃ O' w' e s',os.length≤w'∧(match membersS S F M (l.drop i) with
   | some q=>World O' os.length S q.1 q.2 V∧Pre os O'∧e = .exit 2∧s'=[(0,.val (.slice a l.length c)),(4,.val (.ptr (some (os.length,0))))]
   | none=>e = .ret∧s'=[(2,.val (.ptr none)),(3,.val (.int .i64 15))])∧∀ (k:AExit→St→Option (AVal × Heap)),
   xK T (.loop code49L1) ⟨[(0,.val (.slice a l.length c)),(4,.val (.ptr (some (os.length,0)))),(45,.val (.slice a l.length c)),(46,.val (.int .i64 l.length)),(47,.val (.int .i64 i))],⟨O,b,w⟩⟩ (k:=⟨k⟩) =
   k e ⟨s',⟨O',b,w'⟩⟩
 | 0,i,O,F,M,w,hi,hw,h,hp,hF=>by
  refine ⟨O,w,.exit 2,[(0,.val (.slice a l.length c)),(4,.val (.ptr (some (os.length,0))))],hw,?_,fun k=>?_⟩
  ·rw [br (by omega)];exact ⟨h,hp,rfl,rfl⟩
  ·rw [ce];simp (disch:=omega) [code49L1,iltF]
 | j+1,i,O,F,M,w,hi,hw,h,hp,hF=>by
  obtain ⟨u,hu⟩:∃ u,l[i]? = some u:=⟨_,ah (by omega)⟩;obtain ⟨p,o,cs,rfl,hpp,hpl,hcs,ht⟩:=jt hR hu;have huo:=hok u (bq hu)
  have hd:l.drop i=u :: l.drop (i+1):=by have:=aj hu;rw [ah this] at hu;rw [eu this,dl hu]
  have hlt:=h.lt;have hpO:=hp _ _ hpp;have h98:=fun w=>s98 (b:=b) (w:=w) h (by omega) hS (c:=u.name)
  obtain ⟨O1,w1,hw1,h99a,h99⟩:=s99 (w:=w) huo hp (ai _) h hb (fun x hx=>hF x hx u (by rw [hd]; exact bi ..));have hcu:u.cells=[.str u.name,.str u.super,.slice u.fa u.fields.length u.fc,.slice u.ma u.meths.length u.mc]:=rfl;rw [hcu] at ht h99;rw [hd];rcases aw (endsS S u.name) with c1 | c1
  ·rcases aw (fieldsS S [] u.fields) with c2 | c2
   ·obtain ⟨X,rfl⟩:=h99a c2;have h1:=(h.setF (F++u.fields.map (fieldE u.name))).app X;have hp1:Pre os (O.set (os.length+2) (ft keyF memF (F++u.fields.map (fieldE u.name)))++X):=(hp.set _ (by omega)).trans (Pre.app _ _);obtain ⟨O2,w2,hw2,h100a,h100⟩:=s100 (w:=w1) huo hp1 (ai _) h1 hb;rw [hcu] at h100;rcases aw (methsS S u.name M u.meths) with c3 | c3
    ·have e3:=h100a c3;have h2:=h1.setM (M++u.meths.map (methE u.name));have hp2:Pre os O2:=by rw [e3]; exact hp1.set _ (by omega)
     rw [← e3] at h2
     obtain ⟨O',w',e,s',r1,r2,ih⟩:=l49b (c:=c) hR hok hl hb hS hnd j (i+1) O2 (F++u.fields.map (fieldE u.name)) (M++u.meths.map (methE u.name)) w2 (by omega) (by omega) h2 hp2 (fun x hx v hv=>by
      rcases bz.1 hx with hx | hx
      ·exact hF x hx v (by rw [hd]; exact bu _ hv)
      ·obtain ⟨f,hf,rfl⟩:=ep.1 hx;intro e;have hnd2:((l.drop i).map UnitU.name).Nodup:=by rw [List.map_drop]; exact hnd.sublist (List.drop_sublist _ _)
       rw [hd,b0,wa] at hnd2;exact hnd2.1 (by rw [show u.name=v.name from e]; exact pf hv))
     have c4:unitOk S M u=true:=by simp [unitOk,c1,c2,c3]
     refine ⟨O',w',e,s',r1,by simp only [membersS,c4,if_true]; exact r2,fun k=>?_⟩;have ih:=ih k;have e2:((i+1:Nat):Int)=(i:Int)+1:=by omega
     rw [e2] at ih;rw [ce,← ih];generalize ACode.loop code49L1=L;generalize O.set (os.length+2) (ft keyF memF (F++u.fields.map (fieldE u.name)))++X=H1 at h99 h100;simp (disch:=omega) [-dm,gz,gs,code49L1,h98,nltT,nltF,iltT,ileT,nleT,dg,hpO,ht,h99,h100,c1,c2,c3]
    ·have c4:unitOk S M u=false:=by simp [unitOk,c3]
     refine ⟨O2,w2,.ret,[(2,.val (.ptr none)),(3,.val (.int .i64 15))],by omega,by simp only [membersS,c4]; exact ⟨trivial,trivial⟩,fun k=>?_⟩;rw [ce];generalize ACode.loop code49L1=L;generalize O.set (os.length+2) (ft keyF memF (F++u.fields.map (fieldE u.name)))++X=H1 at h99 h100;simp (disch:=omega) [-dm,gz,gs,code49L1,h98,nltT,nltF,iltT,ileT,nleT,dg,hpO,ht,h99,h100,c1,c2,c3]
   ·have c4:unitOk S M u=false:=by simp [unitOk,c2]
    refine ⟨O1,w1,.ret,[(2,.val (.ptr none)),(3,.val (.int .i64 15))],by omega,by simp only [membersS,c4]; exact ⟨trivial,trivial⟩,fun k=>?_⟩;rw [ce];generalize ACode.loop code49L1=L;simp (disch:=omega) [-dm,gz,gs,code49L1,h98,nltT,nltF,iltT,ileT,nleT,dg,hpO,ht,h99,c1,c2]
  ·have c4:unitOk S M u=false:=by simp [unitOk,c1]
   refine ⟨O,w,.ret,[(2,.val (.ptr none)),(3,.val (.int .i64 15))],hw,by simp only [membersS,c4]; exact ⟨trivial,trivial⟩,fun k=>?_⟩;rw [ce];generalize ACode.loop code49L1=L;simp (disch:=omega) [-dm,gz,gs,code49L1,h98,nltT,nltF,iltT,ileT,nleT,dg,hpO,ht,c1]
end
end Go.Abs.Zh

namespace Go.Abs.Zh
open Go.Abs.Zd
variable {os O:List AObj} {b w:Nat} {N:Nat} {S:List (Str × Str)} {F M:List (Key × Mem)} {V:List (Key × Bool)}
section
attribute [-simp] getElem?_pos getElem?_neg
theorem l49c {l:List UnitU} {a:Option (Nat × Nat)} {c:Option Nat} (hR:Row os 4 UnitU.cells l a) (hok:∀ u ∈ l,u.ok os) (hl:l.length≤32) (hb:b≤os.length) (hS:S.length≤9223372036854775807)
  (h:World O os.length S F M V) (hp:Pre os O):∀ (j i:Nat) (w:Nat),i+j=l.length→∀ (k:AExit→St→Option (AVal × Heap)),
   xK T (.loop code49L0) ⟨[(4,.val (.ptr (some (os.length,0)))),(69,.val (.slice a l.length c)),(70,.val (.int .i64 l.length)),(71,.val (.int .i64 i))],⟨O,b,w⟩⟩ (k:=⟨k⟩) =
   if (l.drop i).all (overS S M) then k (.exit 4) ⟨[(4,.val (.ptr (some (os.length,0))))],⟨O,b,w⟩⟩ else k .ret ⟨[(2,.val (.ptr none)),(3,.val (.int .i64 15))],⟨O,b,w⟩⟩
 | 0,i,w,hi,k=>by rw [ce,br (by omega)];simp (disch:=omega) [code49L0,iltF]
 | j+1,i,w,hi,k=>by
  obtain ⟨u,hu⟩:∃ u,l[i]? = some u:=⟨_,ah (by omega)⟩;obtain ⟨p,o,cs,rfl,hpp,hpl,hcs,ht⟩:=jt hR hu;have huo:=hok u (bq hu)
  have hd:l.drop i=u :: l.drop (i+1):=by have:=aj hu;rw [ah this] at hu;rw [eu this,dl hu]
  have hlt:=h.lt;have hpO:=hp _ _ hpp;have h97:=fun w=>s97 (w:=w) (b:=b) (huo.pre hp) h (by omega) hS
  have hcu:u.cells=[.str u.name,.str u.super,.slice u.fa u.fields.length u.fc,.slice u.ma u.meths.length u.mc]:=rfl;rw [hcu] at ht h97;have ih:=l49c (c:=c) hR hok hl hb hS h hp j (i+1) w (by omega) k;have e2:((i+1:Nat):Int)=(i:Int)+1:=by omega
  rw [e2] at ih;rw [ce,hd];simp only [dz];generalize ACode.loop code49L0=L at ih ⊢;rcases aw (overS S M u) with c1 | c1
  ·simp (disch:=omega) [-List.all_eq_true,gz,gs,code49L0,h97,nltT,nltF,iltT,ileT,nleT,dg,hpO,ht,c1,ih]
  ·simp (disch:=omega) [-List.all_eq_true,gz,gs,code49L0,h97,nltT,nltF,iltT,ileT,nleT,dg,hpO,ht,c1]
end
def supE (u:UnitU):Str × Str:=(u.name,u.super)
theorem vw:∀ {l:List UnitU} {S S2:List (Str × Str)},supersS S l=some S2→S2=S++l.map supE∧(l.map UnitU.name).Nodup∧∀ u ∈ l,gg S u.name=none∧im u.name=true∧u.super≠sysT
 | [],S,S2,h=>by simp only [supersS] at h; cases h; simp
 | u :: l,S,S2,h=>by
  simp only [supersS] at h;split at h;case isFalse=>cases h
  rename_i hu;obtain ⟨h1,h2,h3⟩:=vw h;unfold superOk at hu;simp only [az,gc,decide_eq_false_iff_not] at hu;obtain ⟨⟨c1,c2⟩,c3⟩:=hu;have hg:gg S u.name=none:=by simpa using c1
  refine ⟨by rw [h1,bl]; rfl,?_,fun v hv=>?_⟩
  ·rw [b0,wa];refine ⟨fun hm=>?_,h2⟩;obtain ⟨v,hv,e⟩:=ep.1 hm;have:=(h3 v hv).1;rw [n9,e,hg] at this;simp [gg] at this
  ·rcases cg.1 hv with rfl | hv
   ·exact ⟨hg,c2,c3⟩
   ·obtain ⟨d1,d2,d3⟩:=h3 v hv;rw [n9] at d1;refine ⟨?_,d2,d3⟩;cases hq:gg S v.name with
    | none=>rfl
    | some y=>rw [hq] at d1; cases d1
def worldS (l:List UnitU):Option (List (Str × Str) × List (Key × Mem) × List (Key × Mem)) :=
 if l.length≤32 then match supersS builtS l with
  | some S=>match membersS S [] builtM l with
   | some q=>if l.all (overS S q.2) then some (S,q.1,q.2) else none
   | none=>none
  | none=>none
 else none
def newV (N:Nat):Option (List (Str × Str) × List (Key × Mem) × List (Key × Mem))→AVal
 | none=>.tuple [.ptr none,.int .i64 15]
 | some _=>.tuple [.ptr (some (N,0)),.int .i64 0]
def newO (os:List AObj):Option (List (Str × Str) × List (Key × Mem) × List (Key × Mem))→List AObj
 | none=>os
 | some q=>wO os q.1 q.2.1 q.2.2 builtV
theorem zbg {h0 h:Heap} (hw:h0.size≤h.wmin):dx h0 (.tuple [.ptr none,.int .i64 15]) h=(.tuple [.ptr none,.int .i64 15],h0):=by unfold dx;rw [if_neg (by omega)];simp [AVal.under,AVal.unders]
section
attribute [-simp] getElem?_pos getElem?_neg
attribute [local simp] gz gs
theorem s49 {l:List UnitU} {a:Option (Nat × Nat)} {c:Option Nat} (hR:Row os 4 UnitU.cells l a) (hok:∀ u ∈ l,u.ok os) (hn:l.length≤9223372036854775807) (hb:b≤os.length) :
  xCall T 49 [.slice a l.length c] ⟨os,b,w⟩=some (newV os.length (worldS l),⟨newO os (worldS l),b,w⟩):=by
 have h284:=fun w=>s284 (os:=os) (b:=b) (w:=w) hb
 have hlen:(wO os builtS [] builtM builtV).length=os.length+5:=by simp [wO]
 unfold worldS;by_cases hl:l.length≤32
 ·rw [if_pos hl];have hli:¬ ((32:Int) < l.length):=by omega
  obtain ⟨S1,w1,e1,s1,p1,p2,p3⟩:=l49a (F:=[]) (M:=builtM) (V:=builtV) (c:=c) hR hl hb l.length 0 builtS os.length (by omega) (ai _);simp only [bh,dy] at p2 p3;cases hs:supersS builtS l with
  | none =>
   rw [hs] at p2;simp only at p2;obtain ⟨rfl,rfl⟩:=p2;have hf:=fun X=>zbg (h0:=⟨os,b,w⟩) (h:=⟨X,b,w1⟩) p1
   simp (disch:=omega) [-dx,av t49,code49,h284,p3,hl,hli,hf,newV,newO]
  | some S2 =>
   rw [hs] at p2;simp only at p2;obtain ⟨rfl,rfl,rfl⟩:=p2;obtain ⟨q1,q2,q3⟩:=vw hs;have hSl:S1.length≤9223372036854775807:=by rw [q1]; simp [builtS,faultsL]; omega
   obtain ⟨O2,w2,e2,s2,r1,r2,r3⟩:=l49b (V:=builtV) (c:=c) hR hok hl hb hSl q2 l.length 0 (wO os S1 [] builtM builtV) [] builtM w1 (by omega) p1 (xg _ _ _ _ _) (wO_pre _ _ _ _ _) (fun _ h=>by cases h);simp only [bh,dy] at r2 r3;simp only;cases hm:membersS S1 [] builtM l with
   | none =>
    rw [hm] at r2;simp only at r2;obtain ⟨rfl,rfl⟩:=r2;have hf:=fun X=>zbg (h0:=⟨os,b,w⟩) (h:=⟨X,b,w2⟩) r1
    simp (disch:=omega) [-dx,av t49,code49,h284,p3,r3,hl,hli,hf,newV,newO]
   | some q =>
    obtain ⟨F2,M2⟩:=q;rw [hm] at r2;simp only at r2;obtain ⟨hW,hP,rfl,rfl⟩:=r2;have h3:=fun w=>l49c (b:=b) (c:=c) hR hok hl hb hSl hW hP l.length 0 w (by omega)
    simp only [bh,dy] at h3;simp only;rcases aw (l.all (overS S1 M2)) with c0 | c0
    ·rw [c0] at h3 ⊢;simp only [if_true] at h3 ⊢;have hf:=world_fin (b:=b) hW w r1;simp (disch:=omega) [-dx,av t49,code49,h284,p3,r3,h3,hl,hli,hf,newV,newO]
    ·rw [c0] at h3 ⊢;simp only [am,if_false] at h3 ⊢;have hf:=fun X=>zbg (h0:=⟨os,b,w⟩) (h:=⟨X,b,w2⟩) r1
     simp (disch:=omega) [-dx,av t49,code49,h284,p3,r3,h3,hl,hli,hf,newV,newO]
 ·rw [if_neg hl];have hli:(32:Int) < l.length:=by omega
  simp (disch:=omega) [av t49,code49,h284,hl,hli,newV,newO]
end
end Go.Abs.Zh

namespace Go.Abs
def FieldU.fits (x:FieldU):Prop:=x.name.length≤gn∧x.desc.length≤gn
def InsU.fits (x:InsU):Prop:=x.cls.length≤gn∧x.name.length≤gn∧x.desc.length≤gn∧x.text.length≤gn
def TrapU.fits (x:TrapU):Prop:=x.cls.length≤gn
structure MapU.fits (x:MapU):Prop where
 l:x.locals.length≤gn
 s:x.stack.length≤gn
 ls:∀ t ∈ x.locals,t.length≤gn
 ss:∀ t ∈ x.stack,t.length≤gn
structure MethU.fits (m:MethU):Prop where
 name:m.name.length≤gn
 desc:m.desc.length≤gn
 c:m.code.length≤gn
 cs:∀ x ∈ m.code,x.fits
 t:m.traps.length≤gn
 ts:∀ x ∈ m.traps,x.fits
 x:m.maps.length≤gn
 xs:∀ x ∈ m.maps,x.fits
structure UnitU.cap (u:UnitU):Prop where
 f:∀ k,u.fc=some k→u.fields.length≤k
 m:∀ k,u.mc=some k→u.meths.length≤k
structure UnitU.fits (u:UnitU):Prop where
 name:u.name.length≤gn
 super:u.super.length≤gn
 f:u.fields.length≤gn
 fs:∀ x ∈ u.fields,x.fits
 m:u.meths.length≤gn
 ms:∀ x ∈ u.meths,x.fits
 cap:u.cap
section
variable {os:List AObj} {b w:Nat} {d:Dat} {cs:List AVal}
theorem zbj (h:Has ⟨os,b,w⟩ .str d cs):∃ x:Str,cs=dt x∧x.length≤gn:=by obtain ⟨s,_,rfl,hs⟩:=h.str;exact ⟨s,rfl,hs⟩
theorem has_ins (h:Has ⟨os,b,w⟩ shIns d cs):∃ x:InsU,cs=x.cells∧x.fits:=by obtain ⟨l,rfl,h⟩:=h.struct;obtain ⟨_,_,_,_,rfl,rfl,h1,h⟩:=h.cons;obtain ⟨_,_,_,_,rfl,rfl,h2,h⟩:=h.cons;obtain ⟨_,_,_,_,rfl,rfl,h3,h⟩:=h.cons;obtain ⟨_,_,_,_,rfl,rfl,h4,h⟩:=h.cons;obtain ⟨_,_,_,_,rfl,rfl,h5,h⟩:=h.cons;obtain ⟨_,_,_,_,rfl,rfl,h6,h⟩:=h.cons;obtain ⟨_,_,_,_,rfl,rfl,h7,h⟩:=h.cons;obtain ⟨rfl,rfl⟩:=h.nil;obtain ⟨op,_,rfl,_⟩:=h1.int;obtain ⟨n,_,rfl,_⟩:=h2.int;obtain ⟨m,_,rfl,_⟩:=h3.int;obtain ⟨c,_,rfl,hc⟩:=h4.str;obtain ⟨nm,_,rfl,hn⟩:=h5.str;obtain ⟨e,_,rfl,he⟩:=h6.str;obtain ⟨t,_,rfl,ht⟩:=h7.str;exact ⟨⟨op,n,m,c,nm,e,t⟩,rfl,hc,hn,he,ht⟩
theorem has_trap (h:Has ⟨os,b,w⟩ shTrap d cs):∃ x:TrapU,cs=x.cells∧x.fits:=by obtain ⟨l,rfl,h⟩:=h.struct;obtain ⟨_,_,_,_,rfl,rfl,h1,h⟩:=h.cons;obtain ⟨_,_,_,_,rfl,rfl,h2,h⟩:=h.cons;obtain ⟨_,_,_,_,rfl,rfl,h3,h⟩:=h.cons;obtain ⟨_,_,_,_,rfl,rfl,h4,h⟩:=h.cons;obtain ⟨rfl,rfl⟩:=h.nil;obtain ⟨p,_,rfl,_⟩:=h1.int;obtain ⟨q,_,rfl,_⟩:=h2.int;obtain ⟨r,_,rfl,_⟩:=h3.int;obtain ⟨c,_,rfl,hc⟩:=h4.str;exact ⟨⟨p,q,r,c⟩,rfl,hc⟩
theorem oc {n:Nat} (h:n≤gn):n≤big:=by have:n≤140737488351232:=h;show n≤9223372036854775807;omega
theorem rk {n m:Nat} {a:Option (Nat × Nat)} (h:∀ i o,a=some (i,o)→i < n) (hm:n≤m):under m a:=fun i o e=>f7 (h i o e) hm
theorem has_map (hb:b≤os.length) (h:Has ⟨os,b,w⟩ shMap d cs):∃ x:MapU,cs=x.cells∧x.ok os∧x.fits:=by
 obtain ⟨l,rfl,h⟩:=h.struct;obtain ⟨_,_,_,_,rfl,rfl,h1,h⟩:=h.cons;obtain ⟨_,_,_,_,rfl,rfl,h2,h⟩:=h.cons;obtain ⟨_,_,_,_,rfl,rfl,h3,h⟩:=h.cons;obtain ⟨rfl,rfl⟩:=h.nil;obtain ⟨p,_,rfl,_⟩:=h1.int;obtain ⟨la,L,lc,rfl,hL,hLn,hLs,hLu,_⟩:=h2.row fun d c h=>zbj h
 obtain ⟨sa,S,sc,rfl,hS,hSn,hSs,hSu,_⟩:=h3.row fun d c h=>zbj h
 exact ⟨⟨p,L,la,lc,S,sa,sc⟩,rfl,⟨hL,oc hLn,rk hLu hb,hS,oc hSn,rk hSu hb,fun t ht=>by
  rcases bz.1 ht with ht | ht
  ·exact oc (hLs t ht)
  ·exact oc (hSs t ht)⟩,⟨hLn,hSn,hLs,hSs⟩⟩
theorem has_meth (hb:b≤os.length) (h:Has ⟨os,b,w⟩ shMeth d cs):∃ x:MethU,cs=x.cells∧x.ok os∧x.fits:=by
 obtain ⟨l,rfl,h⟩:=h.struct;obtain ⟨_,_,_,_,rfl,rfl,h1,h⟩:=h.cons;obtain ⟨_,_,_,_,rfl,rfl,h2,h⟩:=h.cons;obtain ⟨_,_,_,_,rfl,rfl,h3,h⟩:=h.cons;obtain ⟨_,_,_,_,rfl,rfl,h4,h⟩:=h.cons;obtain ⟨_,_,_,_,rfl,rfl,h5,h⟩:=h.cons;obtain ⟨_,_,_,_,rfl,rfl,h6,h⟩:=h.cons;obtain ⟨_,_,_,_,rfl,rfl,h7,h⟩:=h.cons;obtain ⟨_,_,_,_,rfl,rfl,h8,h⟩:=h.cons;obtain ⟨rfl,rfl⟩:=h.nil;obtain ⟨st,_,rfl⟩:=h1.bool;obtain ⟨n,_,rfl,hn⟩:=h2.str;obtain ⟨e,_,rfl,he⟩:=h3.str;obtain ⟨p,_,rfl,_⟩:=h4.int;obtain ⟨q,_,rfl,_⟩:=h5.int;obtain ⟨ca,C,cc,rfl,hC,hCn,hCs,hCu,_⟩:=h6.row fun d c h=>has_ins h
 obtain ⟨ta,T,tc,rfl,hT,hTn,hTs,hTu,_⟩:=h7.row fun d c h=>has_trap h
 obtain ⟨xa,X,xc,rfl,hX,hXn,hXs,hXu,_⟩:=h8.row (ok:=fun x:MapU=>x.ok os∧x.fits) fun d c h=>has_map hb h
 exact ⟨⟨st,n,e,p,q,C,ca,cc,T,ta,tc,X,xa,xc⟩,rfl,
  ⟨oc hn,oc he,hC,oc hCn,rk hCu hb,fun x hx=>⟨oc (hCs x hx).1,oc (hCs x hx).2.1,oc (hCs x hx).2.2.1,oc (hCs x hx).2.2.2⟩,hT,oc hTn,rk hTu hb,fun x hx=>oc (hTs x hx),hX,oc hXn,rk hXu hb,fun x hx=>(hXs x hx).1⟩,
  ⟨hn,he,hCn,hCs,hTn,hTs,hXn,fun x hx=>(hXs x hx).2⟩⟩
end
end Go.Abs

namespace Go.Abs.Zm
open Go.Abs.Zd Go.Abs.Zh
variable {os O B:List AObj} {b w:Nat}
def tapeO (tv:AVal) (p:Nat):AObj:=.cells 2 [tv,.int .i64 p]
structure Tape (O:List AObj) (tN:Nat) (tb:List UInt8) (tv:AVal) (p:Nat):Prop where
 at':O[tN]? = some (tapeO tv p)
 le:p≤tb.length
 small:tb.length≤1000
structure TapeV (O:List AObj) (tN:Nat) (tb:List UInt8) (tv:AVal):Prop where
 row:∃ a c,tv = .slice a tb.length c∧Row O 1 og tb a∧∀ i o,a=some (i,o)→i≠tN
theorem set_same {O:List AObj} {i:Nat} {o:AObj} (h:O[i]? = some o):O.set i o=O:=by
 refine me fun j=>?_
 by_cases e:i=j
 ·subst e; rw [de,if_pos rfl,if_pos (aj h),h]
 ·rw [au e]
section
attribute [-simp] getElem?_pos getElem?_neg List.all_eq_true
attribute [local simp] gz gs nltT nltF iltT iltF ileT nleT dg
theorem s102 {tN p:Nat} {tb:List UInt8} {tv:AVal} (ht:Tape O tN tb tv p) (hv:TapeV O tN tb tv) (hb:b≤tN) {n:Int} (hn:1≤n) (hn2:n≤1000) :
  ∃ (r p':Nat) (nx:Nat→Nat),(r:Int) < n∧p'≤tb.length∧((∀ w,nx w=w)∨(∀ w,nx w=min w tN))∧∀ w,xCall T 102 [.ptr (some (tN,0)),.int .i64 n] ⟨O,b,w⟩=some (.int .i64 r,⟨O.set tN (tapeO tv p'),b,nx w⟩):=by
 obtain ⟨a,c,rfl,hr,hd⟩:=hv.row;have h0:=ht.at';have hle:=ht.le;have hsm:=ht.small;have hl:=aj h0;unfold tapeO at h0;by_cases c1:n < 2
 ·refine ⟨0,p,id,by omega,hle,.inl fun w=>rfl,fun w=>?_⟩;rw [set_same ht.at'];simp (disch:=omega) [av t102,code102,c1]
 ·by_cases c2:tb.length≤p
  ·refine ⟨0,p,id,by omega,hle,.inl fun w=>rfl,fun w=>?_⟩;rw [set_same ht.at'];simp (disch:=omega) [av t102,code102,c1,h0,c2]
  ·obtain ⟨x,hx⟩:∃ x,tb[p]? = some x:=⟨_,ah (by omega)⟩;obtain ⟨q,o,cs,ha,hp,hpl,hcs,hcv⟩:=jt hr hx;subst ha;have hq:q≠tN:=hd q o rfl
   have hv2:cs[o+p]? = some (.int .u8 x.toNat):=by have hv':(List.drop (o+p*1) cs).take 1=[.int .u8 x.toNat]:=hcv;have:=congrArg (fun z=>z[0]?) hv';simpa [xp,ed] using this
   have hxl:=x.toNat_lt
   have hm:((x.toNat:Int).tmod n).toNat < n:=by rw [Int.tmod_eq_emod_of_nonneg (by omega)];have:=Int.emod_lt_of_pos (x.toNat:Int) (show 0 < n by omega);have:=Int.emod_nonneg (x.toNat:Int) (show n≠0 by omega);omega
   have hm2:(((x.toNat:Int).tmod n).toNat:Int)=(x.toNat:Int).tmod n:=by rw [Int.tmod_eq_emod_of_nonneg (by omega)];have:=Int.emod_nonneg (x.toNat:Int) (show n≠0 by omega);omega
   have hp2:∀ y,(O.set tN y)[q]? = some (.cells 1 cs):=fun y=>by rw [au (Ne.symm hq)]; exact hp
   have ht2:∀ y,(O.set tN y)[tN]? = some y:=fun y=>by rw [de,if_pos rfl,if_pos hl]
   have e2:((p+1:Nat):Int)=(p:Int)+1:=by omega
   have n0:¬ n=0:=by omega
   refine ⟨((x.toNat:Int).tmod n).toNat,p+1,fun w=>min w tN,hm,by omega,.inr fun w=>rfl,fun w=>?_⟩;rw [hm2];unfold tapeO;rw [e2];simp (disch:=omega) [av t102,code102,c1,h0,c2,hb,hp2,ht2,hv2,n0]
end
structure Own {α:Type} (O:List AObj) (N e:Nat) (f:α→List AVal) (L:List α) (p:Option (Nat × Nat)) (c:Option Nat):Prop where
 some:∀ i o,p=some (i,o)→o=0∧c=Option.none∧N < i∧O[i]? = some (.cells e (L.flatMap f))
 none:p=Option.none→L=[]∧c=Option.some 0
def classesT:List Str:=[[],throwT,[77,97,116,104,70,97,117,108,116],[79,111,112,115],[78,117,108,108,70,97,117,108,116]]
structure InsU.short (x:InsU):Prop where
 cls:x.cls.length≤100
 name:x.name.length≤100
 desc:x.desc.length≤100
 text:x.text.length≤100
structure Leaf (O:List AObj) (N:Nat) (pc pt px:Option (Nat × Nat)) (L:List Str) (a:Option (Nat × Nat)):Prop where
 row:Row O 1 dt L a
 len:L.length≤100
 short:∀ t ∈ L,t.length≤100
 at':∀ i o,a=some (i,o)→N < i∧i < O.length∧(∀ o',pc≠some (i,o'))∧(∀ o',pt≠some (i,o'))∧(∀ o',px≠some (i,o'))
def wrO (tN:Nat) (pc pt px:Option (Nat × Nat)) (cc ct cx:Option Nat) (n nt nx:Nat) (dep bud:Int):AObj :=
 .cells 6 [.ptr (some (tN,0)),.slice pc n cc,.slice pt nt ct,.slice px nx cx,.int .i64 dep,.int .i64 bud]
structure Wr (tN:Nat) (tb:List UInt8) (tv:AVal) (B O:List AObj) (pc pt px:Option (Nat × Nat)) (cc ct cx:Option Nat) (C:List InsU) (S:List TrapU) (M:List MapU) (dep bud:Int):Prop where
 keep:∀ i,i < B.length→i≠tN→O[i]? = B[i]?
 tape:∃ p,Tape O tN tb tv p
 tv:TapeV B tN tb tv
 lt:tN < B.length
 wr:O[B.length]? = some (wrO tN pc pt px cc ct cx C.length S.length M.length dep bud)
 c:Own O B.length 7 InsU.cells C pc cc
 s:Own O B.length 4 TrapU.cells S pt ct
 m:Own O B.length 3 MapU.cells M px cx
 cs:∀ i o o',pc=some (i,o)→pt≠some (i,o')
 cm:∀ i o o',pc=some (i,o)→px≠some (i,o')
 sm:∀ i o o',pt=some (i,o)→px≠some (i,o')
 cok:∀ x ∈ C,InsU.short x
 sok:∀ x ∈ S,x.cls ∈ classesT
 mok:∀ x ∈ M,Leaf O B.length pc pt px x.locals x.la∧Leaf O B.length pc pt px x.stack x.sa
structure Ws (tN:Nat) (tb:List UInt8) (tv:AVal) (B O:List AObj) (n k:Nat) (dep:Int):Prop where
 ex:∃ pc pt px cc ct cx C S M bud,Wr tN tb tv B O pc pt px cc ct cx C S M dep bud∧C.length=n∧n≤k∧S.length≤k∧M.length≤k
section
variable {tN:Nat} {tb:List UInt8} {tv:AVal} {pc pt px:Option (Nat × Nat)} {cc ct cx:Option Nat} {C:List InsU} {S:List TrapU} {M:List MapU} {dep bud:Int}
theorem Wr.len (h:Wr tN tb tv B O pc pt px cc ct cx C S M dep bud):B.length < O.length:=aj h.wr
theorem Leaf.app {N:Nat} {L:List Str} {a:Option (Nat × Nat)} (h:Leaf O N pc pt px L a) (X:List AObj):Leaf (O++X) N pc pt px L a :=
 ⟨(Pre.app O X).row h.row,h.len,h.short,fun i o e=>by obtain ⟨h1,h2,h3⟩:=h.at' i o e;exact ⟨h1,by rw [aq]; omega,h3⟩⟩
theorem Leaf.set {N j:Nat} {L:List Str} {a:Option (Nat × Nat)} {y:AObj} (h:Leaf O N pc pt px L a) (hj:∀ o,a≠some (j,o)):Leaf (O.set j y) N pc pt px L a :=
 ⟨⟨fun hne=>by
  obtain ⟨i,o,cs,h1,h2,h3⟩:=h.row.at' hne;exact ⟨i,o,cs,h1,by rw [au (fun e=>hj o (by rw [e]; exact h1))]; exact h2,h3⟩⟩,h.len,h.short,fun i o e=>by
  obtain ⟨h1,h2,h3⟩:=h.at' i o e;exact ⟨h1,by simpa using h2,h3⟩⟩
theorem Leaf.npc {N:Nat} {L:List Str} {a:Option (Nat × Nat)} {q:Nat} (h:Leaf O N pc pt px L a) (hq:∀ i o,a=some (i,o)→i < q):Leaf O N (some (q,0)) pt px L a :=
 ⟨h.row,h.len,h.short,fun i o e=>by obtain ⟨h1,h2,h3,h4,h5⟩:=h.at' i o e;exact ⟨h1,h2,fun o' e'=>by have:=hq i o e; simp only [bt,el] at e'; omega,h4,h5⟩⟩
theorem Leaf.npt {N:Nat} {L:List Str} {a:Option (Nat × Nat)} {q:Nat} (h:Leaf O N pc pt px L a) (hq:∀ i o,a=some (i,o)→i < q):Leaf O N pc (some (q,0)) px L a :=
 ⟨h.row,h.len,h.short,fun i o e=>by obtain ⟨h1,h2,h3,h4,h5⟩:=h.at' i o e;exact ⟨h1,h2,h3,fun o' e'=>by have:=hq i o e; simp only [bt,el] at e'; omega,h5⟩⟩
theorem Leaf.npx {N:Nat} {L:List Str} {a:Option (Nat × Nat)} {q:Nat} (h:Leaf O N pc pt px L a) (hq:∀ i o,a=some (i,o)→i < q):Leaf O N pc pt (some (q,0)) L a :=
 ⟨h.row,h.len,h.short,fun i o e=>by obtain ⟨h1,h2,h3,h4,h5⟩:=h.at' i o e;exact ⟨h1,h2,h3,h4,fun o' e'=>by have:=hq i o e; simp only [bt,el] at e'; omega⟩⟩
def gw:Option (Nat × Nat)→List AObj→List AObj
 | none,O=>O
 | some (i,_),O=>O.set i .dead
def kz:Option (Nat × Nat)→Nat→Nat
 | none,w=>w
 | some (i,_),w=>min w i
@[simp] theorem killO_len (p:Option (Nat × Nat)) (O:List AObj):(gw p O).length=O.length:=by
 cases p with
 | none=>rfl
 | some q=>obtain ⟨i,o⟩:=q; simp [gw]
theorem killW_le (p:Option (Nat × Nat)) (w:Nat):kz p w≤w:=by
 cases p with
 | none=>exact ai _
 | some q=>obtain ⟨i,o⟩:=q; exact kj ..
theorem app_own {α:Type} {e by':Nat} {f:α→List AVal} {L:List α} {p:Option (Nat × Nat)} {c:Option Nat} {N:Nat} {x:α} (hf:∀ y,(f y).length=e) (h:Own O N e f L p c) (hb:b≤N) (hl:(L.length+1)*by'≤140737488355328) (hl2:L.length≤1000000) (X:List AObj) (w:Nat) :
  dk e by' ⟨O++(X++[.cells e (f x)]),b,w⟩ (.slice p L.length c) (.slice (some (O.length+X.length,0)) 1 (some 1)) =
   some (.slice (some (O.length+X.length+1,0)) (L.length+1) none,⟨gw p O++(X++[.cells e (f x),.cells e ((L++[x]).flatMap f)]),b,kz p w⟩):=by
 have hfl:(L.flatMap f).length=L.length*e:=pa f e hf L
 have hz:gx e ⟨O++(X++[.cells e (f x)]),b,w⟩ (.slice (some (O.length+X.length,0)) 1 (some 1))=some (f x) :=
  ly (by show (O++(X++[AObj.cells e (f x)]))[O.length+X.length]? = _; rw [d8,dj]; rfl) (by rw [hf,Nat.one_mul])
 have hs:(O++(X++[AObj.cells e (f x)])).length=O.length+X.length+1:=by simp; omega
 have he:(L++[x]).flatMap f=L.flatMap f++f x:=by simp
 cases p with
 | none =>
  obtain ⟨rfl,rfl⟩:=h.none rfl;unfold dk;simp only [hz,bp,oa,aApp,alen];have q1:¬ (1:Nat)=0:=by decide
  have q2:(0+1)*by'≤140737488355328∧0+1≤9223372036854775807:=⟨by simpa using hl,by decide⟩
  simp only [eq_false q1,eq_true q2,if_false,if_true];simp [Heap.push,Heap.size,gw,kz];omega
 | some q =>
  obtain ⟨i,o⟩:=q;obtain ⟨rfl,rfl,h3,h4⟩:=h.some i o rfl;have hi:=aj h4;have h5:(O++(X++[AObj.cells e (f x)]))[i]? = some (.cells e (L.flatMap f)):=by rw [ag hi]; exact h4
  have hz1:gx e ⟨O++(X++[.cells e (f x)]),b,w⟩ (.slice (some (i,0)) L.length none)=some (L.flatMap f):=ly h5 hfl
  have hr:rowIs ⟨O++(X++[.cells e (f x)]),b,w⟩ i e=true:=by unfold rowIs Heap.get;simp only [h5];simp
  unfold dk;simp only [hz,hz1,aApp,alen];have q1:¬ (1:Nat)=0:=by decide
  have q2:(L.length+1)*by'≤140737488355328∧L.length+1≤9223372036854775807:=⟨hl,by omega⟩
  have q3:¬ (none:Option Nat)=some L.length:=by simp
  have q4:(⟨O++(X++[AObj.cells e (f x)]),b,w⟩:Heap).base≤i∧rowIs ⟨O++(X++[AObj.cells e (f x)]),b,w⟩ i e=true:=⟨by show b≤i; omega,hr⟩;simp only [eq_false q1,eq_true q2,eq_false q3,eq_true q4,if_false,if_true];simp only [Heap.push,Heap.put,Heap.size,gw,kz,tk _ _ hi,mh,hs,he,bl,ci,bw,aq,bg,bp]
end
end Go.Abs.Zm

namespace Go.Abs.Zm
open Go.Abs.Zd Go.Abs.Zh
variable {os O B:List AObj} {b w:Nat} {tN:Nat} {tb:List UInt8} {tv:AVal} {pc pt px:Option (Nat × Nat)} {cc ct cx:Option Nat} {C:List InsU} {S:List TrapU} {M:List MapU} {dep bud:Int}
section
variable {α:Type} {N e:Nat} {f:α→List AVal} {L:List α} {p:Option (Nat × Nat)} {c:Option Nat}
theorem Own.app (h:Own O N e f L p c) (X:List AObj):Own (O++X) N e f L p c :=
 ⟨fun i o hp=>by obtain ⟨h1,h2,h3,h4⟩:=h.some i o hp;exact ⟨h1,h2,h3,by rw [ag (aj h4)]; exact h4⟩,h.none⟩
theorem Own.set (h:Own O N e f L p c) {j:Nat} (y:AObj) (hj:∀ o,p≠Option.some (j,o)):Own (O.set j y) N e f L p c :=
 ⟨fun i o hp=>by obtain ⟨h1,h2,h3,h4⟩:=h.some i o hp;exact ⟨h1,h2,h3,by rw [au (fun e=>hj o (by rw [e]; exact hp))]; exact h4⟩,h.none⟩
theorem Own.kill (h:Own O N e f L p c) {q:Option (Nat × Nat)} (hq:∀ i o o',q=Option.some (i,o)→p≠Option.some (i,o')):Own (gw q O) N e f L p c:=by
 cases q with
 | none=>exact h
 | some r=>obtain ⟨i,o⟩:=r; exact h.set _ fun o'=>hq i o o' rfl
theorem Leaf.kill {L:List Str} {a:Option (Nat × Nat)} (h:Leaf O N pc pt px L a) {q:Option (Nat × Nat)} (hq:∀ i o o',q=some (i,o)→a≠some (i,o')):Leaf (gw q O) N pc pt px L a:=by
 cases q with
 | none=>exact h
 | some r=>obtain ⟨i,o⟩:=r; exact h.set fun o'=>hq i o o' rfl
theorem lz {q:Option (Nat × Nat)} {i:Nat} (hq:∀ o,q≠some (i,o)):(gw q O)[i]? = O[i]?:=by
 cases q with
 | none=>rfl
 | some r=>obtain ⟨j,o⟩:=r; exact au fun e=>hq o (by rw [e])
end
theorem Wr.setW (h:Wr tN tb tv B O pc pt px cc ct cx C S M dep bud) (dep' bud':Int):Wr tN tb tv B (O.set B.length (wrO tN pc pt px cc ct cx C.length S.length M.length dep' bud')) pc pt px cc ct cx C S M dep' bud' where
 keep:=fun i hi ht=>by rw [au (by omega)]; exact h.keep i hi ht
 tape:=by obtain ⟨p,h1⟩:=h.tape;exact ⟨p,by rw [au (by have:=h.lt; omega)]; exact h1.at',h1.le,h1.small⟩
 tv:=h.tv
 lt:=h.lt
 wr:=by rw [de,if_pos rfl,if_pos h.len]
 c:=h.c.set _ fun o e=>by have:=(h.c.some _ _ e).2.2.1; omega
 s:=h.s.set _ fun o e=>by have:=(h.s.some _ _ e).2.2.1; omega
 m:=h.m.set _ fun o e=>by have:=(h.m.some _ _ e).2.2.1; omega
 cs:=h.cs
 cm:=h.cm
 sm:=h.sm
 cok:=h.cok
 sok:=h.sok
 mok:=fun x hx=>⟨(h.mok x hx).1.set fun o e=>by have:=((h.mok x hx).1.at' _ _ e).1; omega,(h.mok x hx).2.set fun o e=>by have:=((h.mok x hx).2.at' _ _ e).1; omega⟩
theorem Wr.setT (h:Wr tN tb tv B O pc pt px cc ct cx C S M dep bud) {p:Nat} (hp:p≤tb.length):Wr tN tb tv B (O.set tN (tapeO tv p)) pc pt px cc ct cx C S M dep bud where
 keep:=fun i hi ht=>by rw [au (by omega)]; exact h.keep i hi ht
 tape:=by obtain ⟨q,h1⟩:=h.tape;exact ⟨p,by rw [de,if_pos rfl,if_pos (by have:=h.lt; have:=h.len; omega)],hp,h1.small⟩
 tv:=h.tv
 lt:=h.lt
 wr:=by rw [au (by have:=h.lt; omega)]; exact h.wr
 c:=h.c.set _ fun o e=>by have:=(h.c.some _ _ e).2.2.1; have:=h.lt; omega
 s:=h.s.set _ fun o e=>by have:=(h.s.some _ _ e).2.2.1; have:=h.lt; omega
 m:=h.m.set _ fun o e=>by have:=(h.m.some _ _ e).2.2.1; have:=h.lt; omega
 cs:=h.cs
 cm:=h.cm
 sm:=h.sm
 cok:=h.cok
 sok:=h.sok
 mok:=fun x hx=>⟨(h.mok x hx).1.set fun o e=>by have:=((h.mok x hx).1.at' _ _ e).1; have:=h.lt; omega,(h.mok x hx).2.set fun o e=>by have:=((h.mok x hx).2.at' _ _ e).1; have:=h.lt; omega⟩
theorem Wr.app (h:Wr tN tb tv B O pc pt px cc ct cx C S M dep bud) (X:List AObj):Wr tN tb tv B (O++X) pc pt px cc ct cx C S M dep bud where
 keep:=fun i hi ht=>by have:=h.len; rw [ag (by omega)]; exact h.keep i hi ht
 tape:=by obtain ⟨p,h1⟩:=h.tape;exact ⟨p,by rw [ag (aj h1.at')]; exact h1.at',h1.le,h1.small⟩
 tv:=h.tv
 lt:=h.lt
 wr:=by rw [ag h.len]; exact h.wr
 c:=h.c.app X
 s:=h.s.app X
 m:=h.m.app X
 cs:=h.cs
 cm:=h.cm
 sm:=h.sm
 cok:=h.cok
 sok:=h.sok
 mok:=fun x hx=>⟨(h.mok x hx).1.app X,(h.mok x hx).2.app X⟩
theorem Wr.addC (h:Wr tN tb tv B O pc pt px cc ct cx C S M dep bud) {x:InsU} (hx:InsU.short x) (X:List AObj) :
  Wr tN tb tv B ((gw pc O++(X++[AObj.cells 7 x.cells,AObj.cells 7 ((C++[x]).flatMap InsU.cells)])).set B.length (wrO tN (some (O.length+X.length+1,0)) pt px none ct cx (C.length+1) S.length M.length dep bud)) (some (O.length+X.length+1,0)) pt px none ct cx (C++[x]) S M dep bud:=by
 have hl:=h.len;have hlt:=h.lt;have hN:∀ o,pc≠some (B.length,o):=fun o e=>by have:=(h.c.some _ _ e).2.2.1; omega
 have hw:∀ Y,(gw pc O++Y)[B.length]? = some (wrO tN pc pt px cc ct cx C.length S.length M.length dep bud):=fun Y=>by rw [ag (by simpa using hl),lz hN]; exact h.wr
 have hlen:((gw pc O)++(X++[AObj.cells 7 x.cells,AObj.cells 7 ((C++[x]).flatMap InsU.cells)])).length=O.length+X.length+2:=by simp; omega
 constructor
 ·intro i hi ht;rw [au (by omega),ag (by simp; omega),lz fun o e=>by have:=(h.c.some _ _ e).2.2.1; omega];exact h.keep i hi ht
 ·obtain ⟨p,h1⟩:=h.tape
  exact ⟨p,by
   rw [au (by omega),ag (by simp; omega),lz fun o e=>by have:=(h.c.some _ _ e).2.2.1; omega];exact h1.at',h1.le,h1.small⟩
 ·exact h.tv
 ·exact h.lt
 ·rw [de,if_pos rfl,if_pos (by omega)];simp
 ·refine ⟨fun i o e=>?_,fun e=>by cases e⟩;simp only [bt,el] at e;obtain ⟨rfl,rfl⟩:=e;refine ⟨rfl,rfl,by omega,?_⟩;rw [au (by omega),ak (by simp; omega)];have:O.length+X.length+1 - (gw pc O).length=X.length+1:=by simp; omega
  rw [this,d8]; rfl
 ·exact ((h.s.kill fun i o o' e=>h.cs i o o' e).app _).set _ fun o e=>by have:=(h.s.some _ _ e).2.2.1; omega
 ·exact ((h.m.kill fun i o o' e=>h.cm i o o' e).app _).set _ fun o e=>by have:=(h.m.some _ _ e).2.2.1; omega
 ·intro i o o' e e';have:=aj (h.s.some _ _ e').2.2.2;simp only [bt,el] at e;omega
 ·intro i o o' e e';have:=aj (h.m.some _ _ e').2.2.2;simp only [bt,el] at e;omega
 ·exact h.sm
 ·intro y hy;rcases bz.1 hy with hy | hy
  ·exact h.cok y hy
  ·rw [ef.1 hy]; exact hx
 ·exact h.sok
 ·intro y hy;obtain ⟨h1,h2⟩:=h.mok y hy
  have go:∀ {L:List Str} {a:Option (Nat × Nat)},Leaf O B.length pc pt px L a→Leaf ((gw pc O++(X++[AObj.cells 7 x.cells,AObj.cells 7 ((C++[x]).flatMap InsU.cells)])).set B.length (wrO tN (some (O.length+X.length+1,0)) pt px none ct cx (C.length+1) S.length M.length dep bud)) B.length (some (O.length+X.length+1,0)) pt px L a:=fun hL =>
   (((hL.kill fun i o o' e e'=>(hL.at' _ _ e').2.2.1 _ e).app _).set fun o e=>by have:=(hL.at' _ _ e).1; omega).npc fun i o e=>by have:=(hL.at' _ _ e).2.1; omega
  exact ⟨go h1,go h2⟩
end Go.Abs.Zm

namespace Go.Abs.Zm
open Go.Abs.Zd Go.Abs.Zh
variable {os O B:List AObj} {b w:Nat} {tN:Nat} {tb:List UInt8} {tv:AVal} {n k:Nat} {dep:Int}
def Did (tN:Nat) (tb:List UInt8) (tv:AVal) (B:List AObj) (b:Nat) (g:Nat) (args:List AVal) (v:AVal) (O:List AObj) (P:List AObj→Prop):Prop :=
 ∃ O' m,P O'∧tN≤m∧m≤B.length∧∀ w,xCall T g args ⟨O,b,w⟩=some (v,⟨O',b,min w m⟩)
theorem Ws.code (h:Ws tN tb tv B O n k dep) (hb:b≤tN) (hk:k≤100000) {x:InsU} (hx:InsU.short x) :
  ∃ pc pt px cc ct cx nt nx bud cs,O[B.length]? = some (.cells 6 [.ptr (some (tN,0)),.slice pc n cc,.slice pt nt ct,.slice px nx cx,.int .i64 dep,.int .i64 bud])∧tN < B.length∧B.length < O.length∧(∀ w,w≤B.length→kz pc w=w)∧(∀ w,B.length≤w→B.length≤kz pc w) ∧
   (gw pc O)[B.length]? = some (.cells 6 [.ptr (some (tN,0)),.slice pc n cc,.slice pt nt ct,.slice px nx cx,.int .i64 dep,.int .i64 bud]) ∧
   (∀ w,dk 7 88 ⟨O++[AObj.cells 7 x.cells],b,w⟩ (.slice pc n cc) (.slice (some (O.length,0)) 1 (some 1))=some (.slice (some (O.length+1,0)) (n+1) none,⟨gw pc O++[AObj.cells 7 x.cells,AObj.cells 7 cs],b,kz pc w⟩)) ∧
   Ws tN tb tv B ((gw pc O++[AObj.cells 7 x.cells,AObj.cells 7 cs]).set B.length (.cells 6 [.ptr (some (tN,0)),.slice (some (O.length+1,0)) (n+1) none,.slice pt nt ct,.slice px nx cx,.int .i64 dep,.int .i64 bud])) (n+1) (k+1) dep:=by
 obtain ⟨pc,pt,px,cc,ct,cx,C,S,M,bud,hW,rfl,h2,h3,h4⟩:=h.ex;have h1:=app_own (b:=b) (by':=88) (x:=x) (f:=InsU.cells) (fun _=>rfl) hW.c (by have:=hW.lt; omega) (by omega) (by omega) [];have h5:=hW.addC hx [];simp only [bw,bp,jj] at h1 h5;refine ⟨pc,pt,px,cc,ct,cx,S.length,M.length,bud,_,hW.wr,hW.lt,hW.len,fun w hw=>?_,fun w hw=>?_,?_,h1,⟨_,_,_,_,_,_,_,_,_,_,h5,by simp,by omega,by omega,by omega⟩⟩
 ·cases pc with
  | none=>rfl
  | some q=>obtain ⟨i,o⟩:=q; have:=(hW.c.some _ _ rfl).2.2.1; simp only [kz]; omega
 ·cases pc with
  | none=>exact hw
  | some q=>obtain ⟨i,o⟩:=q; have:=(hW.c.some _ _ rfl).2.2.1; simp only [kz]; omega
 ·rw [lz fun o e=>by have:=(hW.c.some _ _ e).2.2.1; omega]; exact hW.wr
section
attribute [-simp] getElem?_pos getElem?_neg List.all_eq_true
attribute [local simp] gz gs nltT nltF iltT iltF ileT nleT dg
theorem s150 (h:Ws tN tb tv B O n k dep) (hb:b≤tN) (hk:k≤100000) {op nn:Int} :
  Did tN tb tv B b 150 [.ptr (some (B.length,0)),.int .u8 op,.int .i64 nn] (.tuple []) O fun O'=>Ws tN tb tv B O' (n+1) (k+1) dep:=by
 obtain ⟨pc,pt,px,cc,ct,cx,nt,nx,bud,cs,h1,h2,h3,h4,h5,h6,h7,h8⟩:=h.code (x:=⟨op,nn,0,[],[],[],[]⟩) hb hk ⟨by simp,by simp,by simp,by simp⟩;refine ⟨_,B.length,h8,by omega,ai _,fun w=>?_⟩;have hkw:=h5 O.length (by omega);have h9:∀ X,(gw pc O++X)[B.length]? = _:=fun X=>(ag (l₂:=X) (by simpa using h3)).trans h6
 simp only [InsU.cells] at h7;simp (disch:=omega) [av t150,code150,-dk,h1,h7,h6,h9,hkw,InsU.cells]
theorem s154 (h:Ws tN tb tv B O n k dep) (hb:b≤tN) (hk:k≤100000) {op:Int} {c m d:Str} (hc:c.length≤100) (hm:m.length≤100) (hd:d.length≤100) :
  Did tN tb tv B b 154 [.ptr (some (B.length,0)),.int .u8 op,.str c,.str m,.str d] (.tuple []) O fun O'=>Ws tN tb tv B O' (n+1) (k+1) dep:=by
 obtain ⟨pc,pt,px,cc,ct,cx,nt,nx,bud,cs,h1,h2,h3,h4,h5,h6,h7,h8⟩:=h.code (x:=⟨op,0,0,c,m,d,[]⟩) hb hk ⟨hc,hm,hd,by simp⟩;refine ⟨_,B.length,h8,by omega,ai _,fun w=>?_⟩;have hkw:=h5 O.length (by omega);have h9:∀ X,(gw pc O++X)[B.length]? = _:=fun X=>(ag (l₂:=X) (by simpa using h3)).trans h6
 simp only [InsU.cells] at h7;simp (disch:=omega) [av t154,code154,-dk,h1,h7,h6,h9,hkw,InsU.cells]
end
theorem Ws.len (h:Ws tN tb tv B O n k dep):tN < B.length∧B.length < O.length:=by obtain ⟨_,_,_,_,_,_,_,_,_,_,hW,_⟩:=h.ex;exact ⟨hW.lt,hW.len⟩
theorem Ws.app (h:Ws tN tb tv B O n k dep) (X:List AObj):Ws tN tb tv B (O++X) n k dep:=by obtain ⟨_,_,_,_,_,_,_,_,_,_,hW,h1⟩:=h.ex;exact ⟨_,_,_,_,_,_,_,_,_,_,hW.app X,h1⟩
theorem Ws.le (h:Ws tN tb tv B O n k dep) {k':Nat} (hk:k≤k'):Ws tN tb tv B O n k' dep:=by obtain ⟨_,_,_,_,_,_,_,_,_,_,hW,h1,h2,h3,h4⟩:=h.ex;exact ⟨_,_,_,_,_,_,_,_,_,_,hW,h1,by omega,by omega,by omega⟩
theorem Ws.at' (h:Ws tN tb tv B O n k dep):∃ pc pt px cc ct cx nt nx bud,O[B.length]? = some (.cells 6 [.ptr (some (tN,0)),.slice pc n cc,.slice pt nt ct,.slice px nx cx,.int .i64 dep,.int .i64 bud]) ∧
  ∀ dep' bud',Ws tN tb tv B (O.set B.length (.cells 6 [.ptr (some (tN,0)),.slice pc n cc,.slice pt nt ct,.slice px nx cx,.int .i64 dep',.int .i64 bud'])) n k dep':=by
 obtain ⟨pc,pt,px,cc,ct,cx,C,S,M,bud,hW,rfl,h2,h3,h4⟩:=h.ex;exact ⟨pc,pt,px,cc,ct,cx,S.length,M.length,bud,hW.wr,fun dep' bud'=>⟨_,_,_,_,_,_,_,_,_,_,hW.setW dep' bud',rfl,h2,h3,h4⟩⟩
theorem Ws.next (h:Ws tN tb tv B O n k dep) (hb:b≤tN) {x:Int} (hx:1≤x) (hx2:x≤1000) :
  ∃ (r:Nat) (O':List AObj) (nx:Nat→Nat),(r:Int) < x∧Ws tN tb tv B O' n k dep∧O'.length=O.length∧(∀ i,i≠tN→O'[i]? = O[i]?)∧((∀ w,nx w=w)∨(∀ w,nx w=min w tN))∧∀ w,xCall T 102 [.ptr (some (tN,0)),.int .i64 x] ⟨O,b,w⟩=some (.int .i64 r,⟨O',b,nx w⟩):=by
 obtain ⟨pc,pt,px,cc,ct,cx,C,S,M,bud,hW,h1⟩:=h.ex;obtain ⟨p,hp⟩:=hW.tape
 have hv:TapeV O tN tb tv:=by obtain ⟨a,c,e,hr,hd⟩:=hW.tv.row;refine ⟨a,c,e,⟨fun hne=>?_⟩,hd⟩;obtain ⟨i,o,cs,e1,e2,e3⟩:=hr.at' hne;exact ⟨i,o,cs,e1,by rw [hW.keep i (aj e2) (hd i o e1)]; exact e2,e3⟩
 obtain ⟨r,p',nx,q1,q2,q3,q4⟩:=s102 hp hv hb hx hx2;exact ⟨r,_,nx,q1,⟨_,_,_,_,_,_,_,_,_,_,hW.setT q2,h1⟩,by simp,fun i hi=>au (Ne.symm hi),q3,q4⟩
theorem jf {nx:Nat→Nat} (hx:(∀ w,nx w=w)∨(∀ w,nx w=min w tN)) {m:Nat} (hm:tN≤m):∃ m',tN≤m'∧m'≤m∧∀ w,min (nx w) m=min w m':=by
 rcases hx with h | h
 ·exact ⟨m,hm,ai _,fun w=>by rw [h]⟩
 ·exact ⟨tN,ai _,hm,fun w=>by rw [h]; omega⟩
theorem nx_le {nx:Nat→Nat} (hx:(∀ w,nx w=w)∨(∀ w,nx w=min w tN)) (w:Nat):nx w≤w:=by
 rcases hx with h | h
 ·rw [h]; exact ai _
 ·rw [h]; exact kj ..
section
attribute [-simp] getElem?_pos getElem?_neg List.all_eq_true
attribute [local simp] gz gs nltT nltF iltT iltF ileT nleT dg
theorem s153 (h:Ws tN tb tv B O n k dep) (hb:b≤tN) (hk:k≤100000) {x:Int} (hx:-100≤x) (hx2:x≤200) :
  Did tN tb tv B b 153 [.ptr (some (B.length,0)),.int .i64 x] (.tuple []) O fun O'=>Ws tN tb tv B O' (n+1) (k+1) dep:=by
 obtain ⟨_,hBO⟩:=h.len;have c5:-128≤x:=by omega
 have c6:-32768≤x:=by omega
 have c7:x < 32768:=by omega
 have c8:IntKind.i64.wrap (3+x)=3+x:=dg (by omega);by_cases c3:-1≤x∧x≤5
 ·obtain ⟨c1,c2⟩:=c3;obtain ⟨O1,m1,p1,l1,u1,e1⟩:=s150 h hb hk (op:=IntKind.u8.wrap (3+x)) (nn:=0);refine ⟨O1,m1,p1,l1,u1,fun w=>?_⟩;simp (disch:=omega) [av t153,code153,e1,c1,c2,c8]
 ·by_cases c4:x < 128
  ·obtain ⟨O1,m1,p1,l1,u1,e1⟩:=s150 h hb hk (op:=16) (nn:=x);refine ⟨O1,m1,p1,l1,u1,fun w=>?_⟩;by_cases c1:-1≤x
   ·have c2:¬ x≤5:=fun e=>c3 ⟨c1,e⟩
    simp (disch:=omega) [av t153,code153,e1,c1,c2,c4,c5]
   ·simp (disch:=omega) [av t153,code153,e1,c1,c4,c5]
  ·obtain ⟨O1,m1,p1,l1,u1,e1⟩:=s150 h hb hk (op:=17) (nn:=x);refine ⟨O1,m1,p1,l1,u1,fun w=>?_⟩;have c1:-1≤x:=by omega
   have c2:¬ x≤5:=by omega
   simp (disch:=omega) [av t153,code153,e1,c1,c2,c4,c5,c6,c7]
end
theorem pr (L:List Int) {r:Nat} (hr:r < L.length):∃ y,(L.map (AVal.int .u8))[r]? = some (.int .u8 y):=by rw [db,ah hr];exact ⟨_,rfl⟩
def KK:Nat→Nat
 | 0=>2
 | d+1=>2*KK d+1
def Expr (tN:Nat) (tb:List UInt8) (tv:AVal) (B:List AObj) (b:Nat) (dep:Int) (g:Nat) (x:Int) (j:Nat):Prop :=
 ∀ (O:List AObj) (n k:Nat),Ws tN tb tv B O n k dep→k+j≤100000→Did tN tb tv B b g [.ptr (some (B.length,0)),.int .i64 x] (.tuple []) O fun O'=>∃ n',n≤n'∧Ws tN tb tv B O' n' (k+j) dep
def acts151:List Int:=[96,100,104,108,126,130,120,112,128,124]
theorem Ws.put (h:Ws tN tb tv B O n k dep) (hb:b≤tN) (hk:k≤100000) {x:InsU} (hx:InsU.short x) :
  ∃ pc pt px cc ct cx nt nx bud cs,O[B.length]? = some (.cells 6 [.ptr (some (tN,0)),.slice pc n cc,.slice pt nt ct,.slice px nx cx,.int .i64 dep,.int .i64 bud]) ∧
   (gw pc O)[B.length]? = some (.cells 6 [.ptr (some (tN,0)),.slice pc n cc,.slice pt nt ct,.slice px nx cx,.int .i64 dep,.int .i64 bud]) ∧
   (∀ X,(gw pc O++X)[B.length]? = some (.cells 6 [.ptr (some (tN,0)),.slice pc n cc,.slice pt nt ct,.slice px nx cx,.int .i64 dep,.int .i64 bud])) ∧
   (∀ w,dk 7 88 ⟨O++[AObj.cells 7 x.cells],b,w⟩ (.slice pc n cc) (.slice (some (O.length,0)) 1 (some 1))=some (.slice (some (O.length+1,0)) (n+1) none,⟨gw pc O++[AObj.cells 7 x.cells,AObj.cells 7 cs],b,kz pc w⟩)) ∧
   (∀ w,min (kz pc w) B.length=min w B.length)∧(∀ w,B.length≤w→B.length≤kz pc w)∧(∀ w,kz pc w≤w) ∧
   Ws tN tb tv B ((gw pc O++[AObj.cells 7 x.cells,AObj.cells 7 cs]).set B.length (.cells 6 [.ptr (some (tN,0)),.slice (some (O.length+1,0)) (n+1) none,.slice pt nt ct,.slice px nx cx,.int .i64 dep,.int .i64 bud])) (n+1) (k+1) dep:=by
 obtain ⟨pc,pt,px,cc,ct,cx,nt,nx,bud,cs,h1,h2,h3,h4,h5,h6,h7,h8⟩:=h.code (b:=b) (x:=x) hb hk hx
 exact ⟨pc,pt,px,cc,ct,cx,nt,nx,bud,cs,h1,h6,fun X=>(ag (l₂:=X) (by simpa using h3)).trans h6,h7,fun w=>by
  rcases Nat.le_total w B.length with q | q
  ·rw [h4 w q]
  ·have:=h5 w q; omega,h5,killW_le pc,h8⟩
theorem Ws.lows (h:Ws tN tb tv B O n k dep) {t d bd:AVal} {n' nt nx:Nat} {pc pt px:Option (Nat × Nat)} {cc ct cx:Option Nat} (h1:O[B.length]? = some (.cells 6 [t,.slice pc n' cc,.slice pt nt ct,.slice px nx cx,d,bd])) :
  (∀ i o,pc=some (i,o)→i < O.length∧B.length < i)∧(∀ i o,pt=some (i,o)→i < O.length∧B.length < i)∧(∀ i o,px=some (i,o)→i < O.length∧B.length < i):=by
 obtain ⟨_,_,_,_,_,_,_,_,_,_,hW,_⟩:=h.ex;have e:=hW.wr.symm.trans h1;simp only [wrO,bt,AObj.cells.injEq,km,AVal.slice.injEq,true_and,and_true] at e;obtain ⟨_,⟨e1,_⟩,⟨e2,_⟩,⟨e3,_⟩,_⟩:=e;subst e1 e2 e3;exact ⟨fun i o e=>⟨aj (hW.c.some i o e).2.2.2,(hW.c.some i o e).2.2.1⟩,fun i o e=>⟨aj (hW.s.some i o e).2.2.2,(hW.s.some i o e).2.2.1⟩,fun i o e=>⟨aj (hW.m.some i o e).2.2.2,(hW.m.some i o e).2.2.1⟩⟩
theorem ids_ins:∀ C:List InsU,AVal.idsL (C.flatMap InsU.cells)=[]
 | []=>rfl
 | x :: C=>by rw [cj,pb,ids_ins C]; simp [InsU.cells,AVal.idsL,AVal.ids]
theorem Ws.codeIds (h:Ws tN tb tv B O n k dep) {t d bd:AVal} {n' nt nx q o:Nat} {pt px:Option (Nat × Nat)} {cc ct cx:Option Nat} {cs:List AVal} (h1:O[B.length]? = some (.cells 6 [t,.slice (some (q,o)) n' cc,.slice pt nt ct,.slice px nx cx,d,bd])) (h2:O[q]? = some (.cells 7 cs)):AVal.idsL cs=[]:=by obtain ⟨_,_,_,_,_,_,_,_,_,_,hW,_⟩:=h.ex;have e:=hW.wr.symm.trans h1;simp only [wrO,bt,AObj.cells.injEq,km,AVal.slice.injEq,true_and,and_true] at e;obtain ⟨_,⟨e1,_⟩,_⟩:=e;subst e1;have:=(hW.c.some _ _ rfl).2.2.2;rw [h2,bt,AObj.cells.injEq] at this;rw [this.2,ids_ins]
theorem okSl {n0 m q:Nat} {ds:List _root_.Go.Abs.Did} {p:Option (Nat × Nat)} {c:Option Nat} (h:∀ i o,p=some (i,o)→i < n0):(AVal.slice p q c).ids.all (okId n0 m ds)=true:=by
 cases p with
 | none=>rfl
 | some x=>obtain ⟨i,o⟩:=x; simp [AVal.ids,okId,h i o rfl]
theorem KK_pos (d:Nat):2≤KK d:=by
 cases d with
 | zero=>exact ai _
 | succ d=>have:=KK_pos d; simp only [KK]; omega
end Go.Abs.Zm

namespace Go.Abs.Zm
open Go.Abs.Zd Go.Abs.Zh
variable {os O B:List AObj} {b w:Nat} {tN:Nat} {tb:List UInt8} {tv:AVal} {pc pt px:Option (Nat × Nat)} {cc ct cx:Option Nat} {C:List InsU} {S:List TrapU} {M:List MapU} {dep bud:Int} {n k:Nat}
theorem Wr.addM (h:Wr tN tb tv B O pc pt px cc ct cx C S M dep bud) {x:MapU} (X:List AObj) (hx1:Leaf (O++X) B.length pc pt px x.locals x.la) (hx2:Leaf (O++X) B.length pc pt px x.stack x.sa) :
  Wr tN tb tv B ((gw px O++(X++[AObj.cells 3 x.cells,AObj.cells 3 ((M++[x]).flatMap MapU.cells)])).set B.length (wrO tN pc pt (some (O.length+X.length+1,0)) cc ct none C.length S.length (M.length+1) dep bud)) pc pt (some (O.length+X.length+1,0)) cc ct none C S (M++[x]) dep bud:=by
 have hl:=h.len;have hlt:=h.lt;have hN:∀ o,px≠some (B.length,o):=fun o e=>by have:=(h.m.some _ _ e).2.2.1; omega
 have hlen:((gw px O)++(X++[AObj.cells 3 x.cells,AObj.cells 3 ((M++[x]).flatMap MapU.cells)])).length=O.length+X.length+2:=by simp; omega
 constructor
 ·intro i hi ht;rw [au (by omega),ag (by simp; omega),lz fun o e=>by have:=(h.m.some _ _ e).2.2.1; omega];exact h.keep i hi ht
 ·obtain ⟨p,h1⟩:=h.tape
  exact ⟨p,by
   rw [au (by omega),ag (by simp; omega),lz fun o e=>by have:=(h.m.some _ _ e).2.2.1; omega];exact h1.at',h1.le,h1.small⟩
 ·exact h.tv
 ·exact h.lt
 ·rw [de,if_pos rfl,if_pos (by omega)];simp
 ·exact ((h.c.kill fun i o o' e e'=>h.cm i o' o e' e).app _).set _ fun o e=>by have:=(h.c.some _ _ e).2.2.1; omega
 ·exact ((h.s.kill fun i o o' e e'=>h.sm i o' o e' e).app _).set _ fun o e=>by have:=(h.s.some _ _ e).2.2.1; omega
 ·refine ⟨fun i o e=>?_,fun e=>by cases e⟩;simp only [bt,el] at e;obtain ⟨rfl,rfl⟩:=e;refine ⟨rfl,rfl,by omega,?_⟩;rw [au (by omega),ak (by simp; omega)];have:O.length+X.length+1 - (gw px O).length=X.length+1:=by simp; omega
  rw [this,d8]; rfl
 ·exact h.cs
 ·intro i o o' e e';have:=aj (h.c.some _ _ e).2.2.2;simp only [bt,el] at e';omega
 ·intro i o o' e e';have:=aj (h.s.some _ _ e).2.2.2;simp only [bt,el] at e';omega
 ·exact h.cok
 ·exact h.sok
 ·intro y hy
  have go:∀ {L:List Str} {a:Option (Nat × Nat)},Leaf (O++X) B.length pc pt px L a→Leaf ((gw px O++(X++[AObj.cells 3 x.cells,AObj.cells 3 ((M++[x]).flatMap MapU.cells)])).set B.length (wrO tN pc pt (some (O.length+X.length+1,0)) cc ct none C.length S.length (M.length+1) dep bud)) B.length pc pt (some (O.length+X.length+1,0)) L a:=fun {L a} hL=>by
   have e1:gw px O++(X++[AObj.cells 3 x.cells,AObj.cells 3 ((M++[x]).flatMap MapU.cells)])=gw px (O++X)++[AObj.cells 3 x.cells,AObj.cells 3 ((M++[x]).flatMap MapU.cells)]:=by
    cases px with
    | none=>simp [gw]
    | some q =>
     obtain ⟨i,o⟩:=q;have:=aj (h.m.some _ _ rfl).2.2.2;simp only [gw,tk _ _ this,bl]
   rw [e1];exact (((hL.kill fun i o o' e e'=>(hL.at' _ _ e').2.2.2.2 _ e).app _).set fun o e=>by have:=(hL.at' _ _ e).1; omega).npx fun i o e=>by have:=(hL.at' _ _ e).2.1; simp at this; omega
  rcases bz.1 hy with hy | hy
  ·obtain ⟨h1,h2⟩:=h.mok y hy;exact ⟨go (h1.app X),go (h2.app X)⟩
  ·rw [ef.1 hy];exact ⟨go hx1,go hx2⟩
theorem Wr.addS (h:Wr tN tb tv B O pc pt px cc ct cx C S M dep bud) {x:TrapU} (hx:x.cls ∈ classesT) (X:List AObj) :
  Wr tN tb tv B ((gw pt O++(X++[AObj.cells 4 x.cells,AObj.cells 4 ((S++[x]).flatMap TrapU.cells)])).set B.length (wrO tN pc (some (O.length+X.length+1,0)) px cc none cx C.length (S.length+1) M.length dep bud)) pc (some (O.length+X.length+1,0)) px cc none cx C (S++[x]) M dep bud:=by
 have hl:=h.len;have hlt:=h.lt;have hN:∀ o,pt≠some (B.length,o):=fun o e=>by have:=(h.s.some _ _ e).2.2.1; omega
 have hlen:((gw pt O)++(X++[AObj.cells 4 x.cells,AObj.cells 4 ((S++[x]).flatMap TrapU.cells)])).length=O.length+X.length+2:=by simp; omega
 constructor
 ·intro i hi ht;rw [au (by omega),ag (by simp; omega),lz fun o e=>by have:=(h.s.some _ _ e).2.2.1; omega];exact h.keep i hi ht
 ·obtain ⟨p,h1⟩:=h.tape
  exact ⟨p,by
   rw [au (by omega),ag (by simp; omega),lz fun o e=>by have:=(h.s.some _ _ e).2.2.1; omega];exact h1.at',h1.le,h1.small⟩
 ·exact h.tv
 ·exact h.lt
 ·rw [de,if_pos rfl,if_pos (by omega)];simp
 ·exact ((h.c.kill fun i o o' e e'=>h.cs i o' o e' e).app _).set _ fun o e=>by have:=(h.c.some _ _ e).2.2.1; omega
 ·refine ⟨fun i o e=>?_,fun e=>by cases e⟩;simp only [bt,el] at e;obtain ⟨rfl,rfl⟩:=e;refine ⟨rfl,rfl,by omega,?_⟩;rw [au (by omega),ak (by simp; omega)];have:O.length+X.length+1 - (gw pt O).length=X.length+1:=by simp; omega
  rw [this,d8]; rfl
 ·exact ((h.m.kill fun i o o' e=>h.sm i o o' e).app _).set _ fun o e=>by have:=(h.m.some _ _ e).2.2.1; omega
 ·intro i o o' e e';have:=aj (h.c.some _ _ e).2.2.2;simp only [bt,el] at e';omega
 ·exact h.cm
 ·intro i o o' e e';have:=aj (h.m.some _ _ e').2.2.2;simp only [bt,el] at e;omega
 ·exact h.cok
 ·intro y hy;rcases bz.1 hy with hy | hy
  ·exact h.sok y hy
  ·rw [ef.1 hy]; exact hx
 ·intro y hy;obtain ⟨h1,h2⟩:=h.mok y hy
  have go:∀ {L:List Str} {a:Option (Nat × Nat)},Leaf O B.length pc pt px L a→Leaf ((gw pt O++(X++[AObj.cells 4 x.cells,AObj.cells 4 ((S++[x]).flatMap TrapU.cells)])).set B.length (wrO tN pc (some (O.length+X.length+1,0)) px cc none cx C.length (S.length+1) M.length dep bud)) B.length pc (some (O.length+X.length+1,0)) px L a:=fun hL =>
   (((hL.kill fun i o o' e e'=>(hL.at' _ _ e').2.2.2.1 _ e).app _).set fun o e=>by have:=(hL.at' _ _ e).1; omega).npt fun i o e=>by have:=(hL.at' _ _ e).2.1; omega
  exact ⟨go h1,go h2⟩
theorem flat_set {α:Type} {e:Nat} {f:α→List AVal} (hf:∀ y,(f y).length=e):∀ (L:List α) (i j:Nat) (x y:α) (v:AVal),L[i]? = some x→j < e→(f x).set j v=f y→(L.flatMap f).set (i*e+j) v=(L.set i y).flatMap f
 | [],i,j,x,y,v,h,_,_=>by simp at h
 | a :: L,0,j,x,y,v,h,hj,hy=>by simp only [bf,bt] at h;subst h;rw [cj,Nat.zero_mul,eh,tk _ _ (by rw [hf]; exact hj),hy,List.set_cons_zero,cj]
 | a :: L,i+1,j,x,y,v,h,hj,hy=>by
  simp only [jk] at h;have e1:(i+1)*e+j=(f a).length+(i*e+j):=by rw [hf,gj,Nat.one_mul]; omega
  rw [cj,e1,List.set_append_right _ _ (by omega),pn,flat_set hf L i j x y v h hj hy,List.set_cons_succ,cj]
theorem Wr.setN (h:Wr tN tb tv B O pc pt px cc ct cx C S M dep bud) {q o i:Nat} (hp:pc=some (q,o)) (hi:i < C.length) (z:Int) :
  ∃ C',C'.length=C.length∧Wr tN tb tv B (O.set q (.cells 7 ((C.flatMap InsU.cells).set (i*7+1) (.int .i64 z)))) pc pt px cc ct cx C' S M dep bud:=by
 obtain ⟨x,hx⟩:∃ x,C[i]? = some x:=⟨_,ah hi⟩;obtain ⟨h1,h2,h3,h4⟩:=h.c.some q o hp;have hlt:=h.lt;have hql:=aj h4;refine ⟨C.set i { x with n:=z },by simp,?_⟩;rw [flat_set (e:=7) (fun _=>rfl) C i 1 x { x with n:=z } (.int .i64 z) hx (by decide) rfl];constructor
 ·intro j hj ht;rw [au (by omega)];exact h.keep j hj ht
 ·obtain ⟨p,h5⟩:=h.tape;exact ⟨p,by rw [au (by omega)]; exact h5.at',h5.le,h5.small⟩
 ·exact h.tv
 ·exact h.lt
 ·rw [au (by omega),mh]; exact h.wr
 ·refine ⟨fun i' o' e=>?_,fun e=>by rw [hp] at e; cases e⟩;have e':=hp.symm.trans e;simp only [bt,el] at e';obtain ⟨rfl,rfl⟩:=e';exact ⟨h1,h2,h3,by rw [de,if_pos rfl,if_pos hql]⟩
 ·exact h.s.set _ fun o' e=>h.cs _ _ _ hp e
 ·exact h.m.set _ fun o' e=>h.cm _ _ _ hp e
 ·exact h.cs
 ·exact h.cm
 ·exact h.sm
 ·intro y hy;rcases List.mem_or_eq_of_mem_set hy with hy | hy
  ·exact h.cok y hy
  ·have:=h.cok x (bq hx);rw [hy];exact ⟨this.cls,this.name,this.desc,this.text⟩
 ·exact h.sok
 ·exact fun y hy=>⟨(h.mok y hy).1.set fun o' e=>((h.mok y hy).1.at' _ _ e).2.2.1 _ hp,(h.mok y hy).2.set fun o' e=>((h.mok y hy).2.at' _ _ e).2.2.1 _ hp⟩
end Go.Abs.Zm

namespace Go.Abs.Zm
open Go.Abs.Zd Go.Abs.Zh
variable {os O B:List AObj} {b w:Nat} {tN:Nat} {tb:List UInt8} {tv:AVal} {pc pt px:Option (Nat × Nat)} {cc ct cx:Option Nat} {C:List InsU} {S:List TrapU} {M:List MapU} {dep bud:Int} {n k:Nat}
theorem leaf0 {N:Nat}:Leaf O N pc pt px [] none:=⟨⟨fun h=>absurd rfl h⟩,by decide,by simp,fun _ _ e=>by cases e⟩
theorem Wr.leaf1 (h:Wr tN tb tv B O pc pt px cc ct cx C S M dep bud) {q:Nat} {L:List Str} (hq:B.length < q) (hO:O[q]? = some (.cells 1 (L.flatMap dt))) (hl:L.length≤100) (hs:∀ t ∈ L,t.length≤100):Leaf O B.length pc pt px L (some (q,0)) :=
 ⟨Row.mk0 (fun _=>rfl) hO,hl,hs,fun i o e=>by
  simp only [bt,el] at e;obtain ⟨rfl,rfl⟩:=e;refine ⟨hq,aj hO,fun o' e=>?_,fun o' e=>?_,fun o' e=>?_⟩
  ·have:=(h.c.some _ _ e).2.2.2; rw [hO] at this; simp at this
  ·have:=(h.s.some _ _ e).2.2.2; rw [hO] at this; simp at this
  ·have:=(h.m.some _ _ e).2.2.2; rw [hO] at this; simp at this⟩
def localsL:List Str:=[[73],[73],[73],[74],[76,65,59],[91,73],[91,66]]
theorem s222 (hb:b≤O.length):xCall T 222 [] ⟨O,b,w⟩=some (.slice (some (O.length,0)) 7 (some 7),⟨O++[.cells 1 (localsL.flatMap dt)],b,w⟩):=by have e:localsL.flatMap dt=[.str [73],.str [73],.str [73],.str [74],.str [76,65,59],.str [91,73],.str [91,66]]:=rfl;rw [e];simp (disch:=omega) [-getElem?_pos,-getElem?_neg,-List.all_eq_true,gz,gs,nltT,nltF,iltT,iltF,ileT,nleT,dg,av t222,code222,jc,lb,d8,dj]
end Go.Abs.Zm

namespace Go.Abs.Zm
open Go.Abs.Zd Go.Abs.Zh
variable {os O B:List AObj} {b w:Nat} {tN:Nat} {tb:List UInt8} {tv:AVal} {pc pt px:Option (Nat × Nat)} {cc ct cx:Option Nat} {C:List InsU} {S:List TrapU} {M:List MapU} {dep bud:Int} {n k:Nat}
theorem Own.row {α:Type} {N e:Nat} {f:α→List AVal} {L:List α} {p:Option (Nat × Nat)} {c:Option Nat} (hf:∀ x,(f x).length=e) (h:Own O N e f L p c):Row O e f L p:=by
 cases p with
 | none=>obtain ⟨rfl,_⟩:=h.none rfl; exact ⟨fun h=>absurd rfl h⟩
 | some q =>
  obtain ⟨i,o⟩:=q;obtain ⟨rfl,_,_,h4⟩:=h.some i o rfl;exact Row.mk0 hf h4
theorem take_get {cs L:List AVal} {m e k:Nat} (h:List.take e (List.drop m cs)=L) (hk:k < e):cs[m+k]? = L[k]?:=by rw [← h,fb hk,ed]
inductive StackOf (O:List AObj) (N:Nat):Option (Nat × Nat)→Option Nat→List Str→Prop
 | nil:StackOf O N none (some 0) []
 | one (q:Nat) (s:Str):N < q→s.length≤100→O[q]? = some (.cells 1 [.str s])→StackOf O N (some (q,0)) (some 1) [s]
theorem ids_slice {n m:Nat} {a:Option (Nat × Nat)} {c:Option Nat} (h:under n a):∀ i ∈ (AVal.slice a m c).ids,i < n:=by
 cases a with
 | none=>simp [AVal.ids]
 | some p=>obtain ⟨j,o⟩:=p; simp only [AVal.ids,ef]; rintro i rfl; exact h _ _ rfl
theorem ids_map {n:Nat}:∀ {M:List MapU},(∀ x ∈ M,under n x.la∧under n x.sa)→∀ i ∈ AVal.idsL (M.flatMap MapU.cells),i < n
 | [],_=>by simp [AVal.idsL]
 | x :: M,h=>by
  intro i hi;rw [cj,pb,bz] at hi;rcases hi with hi | hi
  ·simp only [MapU.cells,AVal.idsL,AVal.ids,bw,cq,bz] at hi;rcases hi with hi | hi
   ·exact ids_slice (h x (bi ..)).1 i hi
   ·exact ids_slice (h x (bi ..)).2 i hi
  ·exact ids_map (fun y hy=>h y (bu _ hy)) i hi
theorem all_okId {n0:Nat} {l:List Nat} (h:∀ i ∈ l,i < n0+1) (hm:n0 ∈ l) (m:Nat) (ds:List Go.Abs.Did):l.all (okId n0 m ds)=okId n0 m ds n0:=by
 rw [ml,al];constructor
 ·intro hh; exact hh _ hm
 ·intro hh i hi;rcases bj i n0 with q | q
  ·simp [okId,q]
  ·have:=h i hi;rw [show i=n0 by omega]; exact hh
set_option maxHeartbeats 1600000 in
theorem s208 (h:Ws tN tb tv B O n k dep) (hb:b≤tN) (hk:k+1≤100000) {sa:Option (Nat × Nat)} {sc:Option Nat} {L:List Str} (hst:StackOf O B.length sa sc L) {a0 a1 a2 a3 a4 a5:AVal} (hat:O[B.length]? = some (.cells 6 [a0,a1,a2,a3,a4,a5])) :
  ∃ (O':List AObj) (nx:Nat→Nat) (a3':AVal),Ws tN tb tv B O' n (k+1) dep∧O'[B.length]? = some (.cells 6 [a0,a1,a2,a3',a4,a5])∧O.length≤O'.length∧((∀ w,nx w=w)∨(∀ w,nx w=min w B.length)) ∧
   ∀ w,xCall T 100208 [.ptr (some (B.length,0)),.slice sa L.length sc] ⟨O,b,w⟩=some (.int .i64 n,⟨O',b,nx w⟩):=by
 obtain ⟨pc,pt,px,cc,ct,cx,C,S,M,bud,hW,rfl,h2,h3,h4⟩:=h.ex;have hwr:=hW.wr;have hBO:=hW.len;have hlt:=hW.lt;have e:=hat.symm.trans hwr;simp only [wrO,bt,AObj.cells.injEq,km,true_and,and_true] at e;obtain ⟨rfl,rfl,rfl,rfl,rfl,rfl⟩:=e;have hRm:Row O 3 MapU.cells M px:=Own.row (f:=MapU.cells) (fun _=>rfl) hW.m;have hn1:C.length≤9223372036854775807:=by omega
 have hMl:M.length≤9223372036854775807:=by omega
 have hm:M.length=0∨∃ (l p:Nat) (cs:List AVal) (v:Int),M.length=l+1∧px=some (p,0)∧O[p]? = some (.cells 3 cs)∧l*3+3≤cs.length∧cs[l*3]? = some (.int .i64 v)∧B.length < p∧p < O.length:=by
  rcases qg M.length with c | c
  ·exact .inl c
  ·obtain ⟨y,hy⟩:∃ y,M[M.length - 1]? = some y:=⟨_,ah (by omega)⟩;obtain ⟨p,o,cs,ha,hpp,hpl,hcs,ht⟩:=jt hRm hy;obtain ⟨e1,e2,e3,e4⟩:=hW.m.some p o ha;subst e1;have:=take_get (k:=0) ht (by decide);rw [eh,jj] at this;exact .inr ⟨M.length - 1,p,cs,y.at',by omega,ha,hpp,by omega,this,e3,hpl⟩
 have hX:=fun w=>s222 (O:=O) (b:=b) (w:=w) (by omega)
 have hl1:Leaf (O++[.cells 1 (localsL.flatMap dt)]) B.length pc pt px localsL (some (O.length,0)):=(hW.app _).leaf1 hBO (by rw [dj]; rfl) (by decide) (by decide)
 have hl2:Leaf (O++[.cells 1 (localsL.flatMap dt)]) B.length pc pt px L sa:=by
  cases hst with
  | nil=>exact leaf0
  | one q s q1 q2 q3=>exact (hW.app _).leaf1 q1 (by rw [ag (aj q3),q3]; rfl) (by simp) (by simpa using q2)
 obtain ⟨x,hx⟩:∃ x:MapU,x=⟨C.length,localsL,some (O.length,0),some 7,L,sa,sc⟩:=⟨_,rfl⟩;have hcu:x.cells=[.int .i64 C.length,.slice (some (O.length,0)) 7 (some 7),.slice sa L.length sc]:=by rw [hx]; rfl
 have h1:=app_own (b:=b) (by':=56) (x:=x) (f:=MapU.cells) (fun _=>rfl) hW.m (by omega) (by omega) (by omega) [.cells 1 (localsL.flatMap dt)];have h5:=hW.addM (x:=x) [.cells 1 (localsL.flatMap dt)] (by rw [hx]; exact hl1) (by rw [hx]; exact hl2)
 have hidm:∀ i ∈ AVal.idsL ((M++[x]).flatMap MapU.cells),i < O.length+1:=ids_map fun y hy=>by
  have go:∀ {L:List Str} {a:Option (Nat × Nat)},Leaf (O++[.cells 1 (localsL.flatMap dt)]) B.length pc pt px L a→under (O.length+1) a:=fun hL i o e=>by have:=(hL.at' i o e).2.1; simpa using this
  rcases bz.1 hy with hy | hy
  ·exact ⟨go ((hW.mok y hy).1.app _),go ((hW.mok y hy).2.app _)⟩
  ·rw [ef.1 hy,hx]; exact ⟨go hl1,go hl2⟩
 have hmemR:O.length ∈ AVal.idsL ((M++[x]).flatMap MapU.cells):=by rw [iz,pb,bz];right;simp [hcu,AVal.idsL,AVal.ids]
 have hall:=all_okId hidm hmemR;generalize (M++[x]).flatMap MapU.cells=R at *;generalize localsL.flatMap dt=Y at *;simp only [f9] at h1 h5;obtain ⟨O',hO'⟩:∃ O',O'=(gw px O++([AObj.cells 1 Y]++[AObj.cells 3 x.cells,AObj.cells 3 R])).set B.length (wrO tN pc pt (some (O.length+1+1,0)) cc ct none C.length S.length (M.length+1) dep bud):=⟨_,rfl⟩;rw [← hO'] at h5;have hlO:O.length≤O'.length:=by rw [hO']; simp
 have key:∀ w,(M.length=0∨∃ (l p:Nat) (cs:List AVal) (v:Int),M.length=l+1∧px=some (p,0)∧O[p]? = some (.cells 3 cs)∧l*3+3≤cs.length∧cs[l*3]? = some (.int .i64 v)∧B.length < p∧p < O.length∧v≠C.length) →
   xCall T 100208 [.ptr (some (B.length,0)),.slice sa L.length sc] ⟨O,b,w⟩=some (.int .i64 C.length,⟨O',b,min w B.length⟩):=by
  intro w hm;rw [hcu] at h1 hO';have hlw:=h.lows hat
  have hB1:∀ X,(gw px O++X)[B.length]? = some (AObj.cells 6 [.ptr (some (tN,0)),.slice pc C.length cc,.slice pt S.length ct,.slice px M.length cx,.int .i64 dep,.int .i64 bud]):=fun X=>by rw [ag (by simpa using hBO),lz fun o e=>by have:=(hlw.2.2 _ _ e).2; omega]; exact hat
  rcases hm with hm | ⟨l,p,cs,v,m1,m2,m3,m4,m5,m6,m7,m8⟩
  ·rw [hm] at hat h1 hO' hB1;simp only [wrO] at hO';rw [hO'];cases px with
   | none =>
    cases hst with
    | nil =>
     simp only [gw,kz,ci,bw,bp,f9] at h1 hB1 ⊢;simp (maxSteps:=3000000) (disch:=omega) [-getElem?_pos,-getElem?_neg,-List.all_eq_true,gz,gs,nltT,nltF,iltT,iltF,ileT,nleT,dg,ap,benign,again,AVal.eqb,-sget,jv,jw,jx,-dk,av ru,code100208,hat,hX,h1,hall,hB1,d8,dj,hm]
    | one q s q1 q2 q3 =>
     simp only [gw,kz,ci,bw,bp,f9] at h1 hB1 ⊢;have q4:=aj q3;simp (maxSteps:=3000000) (disch:=omega) [-getElem?_pos,-getElem?_neg,-List.all_eq_true,gz,gs,nltT,nltF,iltT,iltF,ileT,nleT,dg,ap,benign,again,AVal.eqb,-sget,jv,jw,jx,-dk,av ru,code100208,hat,hX,h1,hall,hB1,d8,dj,hm]
   | some q0 =>
    obtain ⟨i,o⟩:=q0;obtain ⟨l1,l2⟩:=hlw.2.2 i o rfl;have hk0:∀ X:List AObj,(O.set i .dead++X)[O.length]? = X[0]?:=fun X=>by rw [ak (by simp)]; simp
    have hk1:∀ (X:List AObj) (j:Nat),(O.set i .dead++X)[O.length+j]? = X[j]?:=fun X j=>by rw [ak (by simp)]; simp
    have hi1:¬ i=O.length+2:=by omega
    have hi2:¬ O.length+2≤i:=by omega
    have hi3:¬ O.length+1≤i:=by omega
    have hi4:¬ O.length≤i:=by omega
    have hi5:i < O.length+2:=by omega
    have hi6:i < O.length+1:=by omega
    have hiB:i≠B.length:=by omega
    have hi7:¬ i=O.length+1:=by omega
    have hi8:¬ i=O.length:=by omega
    cases hst with
    | nil =>
     simp only [gw,kz,ci,bw,bp,f9] at h1 hB1 ⊢;simp (maxSteps:=3000000) (disch:=omega) [-getElem?_pos,-getElem?_neg,-List.all_eq_true,gz,gs,nltT,nltF,iltT,iltF,ileT,nleT,dg,ap,benign,again,AVal.eqb,-sget,jv,jw,jx,-dk,av ru,code100208,hat,hX,h1,hall,hB1,d8,dj,hk0,hk1,hi1,hi2,hi3,hi4,hi5,hi6,hi7,hi8,hiB,l1,l2]
    | one q s q1 q2 q3 =>
     simp only [gw,kz,ci,bw,bp,f9] at h1 hB1 ⊢;have q4:=aj q3;simp (maxSteps:=3000000) (disch:=omega) [-getElem?_pos,-getElem?_neg,-List.all_eq_true,gz,gs,nltT,nltF,iltT,iltF,ileT,nleT,dg,ap,benign,again,AVal.eqb,-sget,jv,jw,jx,-dk,av ru,code100208,hat,hX,h1,hall,hB1,d8,dj,hk0,hk1,hi1,hi2,hi3,hi4,hi5,hi6,hi7,hi8,hiB,l1,l2]
  ·rw [m1] at hat h1 hO' hB1;simp only [wrO] at hO';rw [hO'];subst m2;have hpp:=fun X=>(ag (l₂:=X) m7).trans m3
   have hk0:∀ X:List AObj,(O.set p .dead++X)[O.length]? = X[0]?:=fun X=>by rw [ak (by simp)]; simp
   have hk1:∀ (X:List AObj) (j:Nat),(O.set p .dead++X)[O.length+j]? = X[j]?:=fun X j=>by rw [ak (by simp)]; simp
   have hi1:¬ p=O.length+2:=by omega
   have hi2:¬ O.length+2≤p:=by omega
   have hi3:¬ O.length+1≤p:=by omega
   have hi4:¬ O.length≤p:=by omega
   have hi5:p < O.length+2:=by omega
   have hi6:p < O.length+1:=by omega
   have hiB:p≠B.length:=by omega
   have hi7:¬ p=O.length+1:=by omega
   have hi8:¬ p=O.length:=by omega
   cases hst with
   | nil =>
    simp only [gw,kz,ci,bw,bp,f9] at h1 hB1 ⊢;simp (maxSteps:=3000000) (disch:=omega) [-getElem?_pos,-getElem?_neg,-List.all_eq_true,gz,gs,nltT,nltF,iltT,iltF,ileT,nleT,dg,ap,benign,again,AVal.eqb,-sget,jv,jw,jx,-dk,av ru,code100208,hat,hX,h1,hall,hB1,d8,dj,hk0,hk1,hi1,hi2,hi3,hi4,hi5,hi6,hi7,hi8,hiB,m3,m5,m8,m6,m7]
   | one q s q1 q2 q3 =>
    simp only [gw,kz,ci,bw,bp,f9] at h1 hB1 ⊢;have q4:=aj q3;simp (maxSteps:=3000000) (disch:=omega) [-getElem?_pos,-getElem?_neg,-List.all_eq_true,gz,gs,nltT,nltF,iltT,iltF,ileT,nleT,dg,ap,benign,again,AVal.eqb,-sget,jv,jw,jx,-dk,av ru,code100208,hat,hX,h1,hall,hB1,d8,dj,hk0,hk1,hi1,hi2,hi3,hi4,hi5,hi6,hi7,hi8,hiB,m3,m5,m8,m6,m7]
 rcases hm with hm | ⟨l,p,cs,v,m1,m2,m3,m4,m5,m6,m7⟩
 ·exact ⟨O',fun w=>min w B.length,_,⟨_,_,_,_,_,_,_,_,_,_,h5,rfl,by omega,by omega,by simp; omega⟩,h5.wr,hlO,.inr fun w=>rfl,fun w=>key w (.inl hm)⟩
 ·by_cases c1:v=C.length
  ·refine ⟨O,id,_,h.le (by omega),hat,ai _,.inl fun w=>rfl,fun w=>?_⟩;subst c1 m2;have hli:((l:Int)+1) - 1=l:=by omega
   rw [m1] at hat;simp (maxSteps:=3000000) (disch:=omega) [-getElem?_pos,-getElem?_neg,-List.all_eq_true,gz,gs,nltT,nltF,iltT,iltF,ileT,nleT,dg,-sget,jv,jw,jx,av ru,code100208,hat,m1,m3,m5]
  ·exact ⟨O',fun w=>min w B.length,_,⟨_,_,_,_,_,_,_,_,_,_,h5,rfl,by omega,by omega,by simp; omega⟩,h5.wr,hlO,.inr fun w=>rfl,fun w=>key w (.inr ⟨l,p,cs,v,m1,m2,m3,m4,m5,m6,m7,c1⟩)⟩
end Go.Abs.Zm

namespace Go.Abs.Zm
open Go.Abs.Zd Go.Abs.Zh
variable {os O B:List AObj} {b w:Nat} {tN:Nat} {tb:List UInt8} {tv:AVal} {n k:Nat} {dep:Int}
set_option maxHeartbeats 1000000 in
theorem k4_183 (hb:b≤tN) {x:Int} {nx1:Nat→Nat} {O1:List AObj} {j:Nat} {c0:List AVal} (h:Ws tN tb tv B O n k dep) (f2:Ws tN tb tv B O1 n k dep) (f5:(∀ w,nx1 w=w)∨(∀ w,nx1 w=min w tN))
  (f6:∀ w,xCall T 102 [.ptr (some (tN,0)),.int .i64 6] ⟨O,b,w⟩=some (.int .i64 ((4:Nat):Int),⟨O1,b,nx1 w⟩))
  (hat:O[B.length]? = some (.cells 6 (.ptr (some (tN,0)) :: c0))) (hj:1≤j) (hk:k+j≤100000) :
  Did tN tb tv B b 183 [.ptr (some (B.length,0)),.int .i64 x] (.tuple []) O fun O'=>∃ n',n≤n'∧Ws tN tb tv B O' n' (k+j) dep:=by
 obtain ⟨hlt,hBO⟩:=h.len;have hBO1:=f2.len.2;obtain ⟨r2,O2,nx,g1,g2,g3,g4,g5,g6⟩:=f2.next hb (x:=256) (by decide) (by decide)
 have hBO2:=g2.len.2;have hO12:O2.length=O1.length:=g3;obtain ⟨pc,pt,px,cc,ct,cx,nt,nx',bud,cs,h1,h6,h9,h7,hkw,hk1,hk2,h8⟩:=g2.put (b:=b) (x:=⟨20,(r2:Int)*1099511627776 - 5,0,[],[],[74],[]⟩) hb (by omega) ⟨by simp,by simp,by simp,by simp⟩;have e11:=(g4 B.length (by omega)).symm.trans h1;obtain ⟨lw,_,_⟩:=g2.lows h1;have n1:¬ (r2:Int) < 0:=by omega
 have hok:=fun m ds=>okSl (n0:=O1.length) (m:=m) (q:=n) (ds:=ds) (c:=cc) (p:=pc) fun i o e=>by have:=(lw i o e).1; omega
 obtain ⟨m'',q4,q5,q6⟩:=jf f5 (ai tN);have hwl1:nx1 O.length=O.length∨nx1 O.length=tN:=by rcases f5 with g | g <;> rw [g] <;> omega
 have hwl:nx O1.length=O1.length∨nx O1.length=tN:=by rcases g5 with g | g <;> rw [g] <;> omega
 have hm1:min O1.length B.length=B.length:=by omega
 have hm2:min tN B.length=tN:=by omega
 refine ⟨_,min (nx1 O.length) (min (nx O1.length) B.length),⟨n+1,by omega,h8.le (by omega)⟩,by omega,by omega,fun w=>?_⟩;simp only [InsU.cells] at h7 ⊢;rw [hO12] at h7 ⊢;rw [av t183];have hbits:min 40 IntKind.i64.bits=40:=rfl;have hwl:nx O1.length=O1.length∨nx O1.length=tN:=by rcases g5 with g | g <;> rw [g] <;> omega
 have hg0:∀ X:List AObj,(O2++X)[O1.length]? = X[0]?:=fun X=>by rw [← hO12,dj]
 have hg1:∀ (X:List AObj) (i:Nat),(O2++X)[O1.length+i]? = X[i]?:=fun X i=>by rw [← hO12,d8]
 have hB1:∀ X:List AObj,(O2++X)[B.length]? = some (AObj.cells 6 [.ptr (some (tN,0)),.slice pc n cc,.slice pt nt ct,.slice px nx' cx,.int .i64 dep,.int .i64 bud]):=fun X=>(ag (by omega)).trans h1
 have hids:AVal.idsL cs=[]:=h8.codeIds (q:=O2.length+1) (o:=0) (cs:=cs) (by rw [de,if_pos rfl,if_pos (by simp; omega)]) (by
  rw [au (by omega),ak (by simp)];simp)
 have hBn:B.length≠tN:=by omega
 have c5:0 < x∨¬ 0 < x:=by omega
 cases pc with
 | none =>
  simp only [gw,kz] at h7 h9 ⊢
  rcases c5 with c4 | c4 <;> rcases hwl with hwl | hwl <;>
   simp (maxSteps:=3000000) (disch:=omega) [-getElem?_pos,-getElem?_neg,-List.all_eq_true,gz,gs,nltT,nltF,iltT,iltF,ileT,nleT,dg,ap,benign,again,AVal.eqb,hO12,hbits,hg0,hg1,hB1,-sget,jv,jw,jx,-dk,code183,code183B0,hat,f6,c4,g6,h1,e11,hok,h7,h9,hids,hm1,hm2,hwl]
 | some q =>
  obtain ⟨i,o⟩:=q;obtain ⟨l1,l2⟩:=lw i o rfl;have hk0:∀ X:List AObj,(O2.set i .dead++X)[O1.length]? = X[0]?:=fun X=>by rw [← hO12,ak (by simp)]; simp
  have hk1:∀ (X:List AObj) (j:Nat),(O2.set i .dead++X)[O1.length+j]? = X[j]?:=fun X j=>by rw [← hO12,ak (by simp)]; simp
  have hi1:¬ i=O1.length+1:=by omega
  have hi2:¬ O1.length+1≤i:=by omega
  have hi3:¬ O1.length≤i:=by omega
  have hi4:i < O1.length:=by omega
  have hi5:i < O1.length+1:=by omega
  have hBi:B.length≤i:=by omega
  have htB:tN≤i:=by omega
  have hiB:i≠B.length:=by omega
  have hit:i≠tN:=by omega
  simp only [gw,kz] at h7 h9 ⊢
  rcases c5 with c4 | c4 <;> rcases hwl with hwl | hwl <;>
   simp (maxSteps:=3000000) (disch:=omega) [-getElem?_pos,-getElem?_neg,-List.all_eq_true,gz,gs,nltT,nltF,iltT,iltF,ileT,nleT,dg,ap,benign,again,AVal.eqb,hO12,hbits,hg0,hg1,hB1,-sget,jv,jw,jx,-dk,code183,code183B0,hat,f6,c4,g6,h1,e11,hok,h7,h9,hids,hm1,hm2,hk0,hk1,hi1,hi2,hi3,hi4,hi5,hiB,hit,hwl]
end Go.Abs.Zm
