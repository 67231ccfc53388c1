/-
  Texts joined.
-/
import Derived.Test.YtfjiakbhdjcceaaGreatQ0
import Derived.Test.YtfjiakbhdjcceaaGreatQ9
import Derived.Test.YtfjiakbhdjcceaaGreatQ10
import Derived.Test.YtfjiakbhdjcceaaGreatQ8
import Derived.Test.YtfjiakbhdjcceaaGreatQ6
set_option linter.unusedVariables false
set_option linter.unusedSimpArgs false
set_option maxRecDepth 100000
namespace Go.Abs
section
variable {E:Env} {lo nt:Nat} {μ0:MM} {w0:World} {ds:List Deferred}
theorem yp (hg:GidOK E) {f:Operand} {ps:Array Tmp} {ax bx:Code} {f':Opd} {g:Nat} {caps:List Nat} {aa ab:ACode} {ha hb:Hint} (hf:gq E f=some f') (cv:co E nt true ha ax=some aa) (cx:co E nt true hb bx=some ab) (b5:(ps.all fun t=>decide (t < nt))=true)
  (b6:E.rnd g=some ⟨ps.toList,aa,ab⟩) {s:Slots} {h:Heap} {a:Act} {w:World} (cy:At E lo nt μ0 w0 ds s h a w) {gf:Nat} {first cp:List AVal} {sl:List (Nat × AVal)} (d1:f'.ev s=some (.func gf first cp)) (d2:capsOf s caps=some sl) {R:AExit→St→Prop}
  (a0:CallD E gf (first++[.yield h.size]++cp) (h.push (.loop g .ready none sl)) fun _ h'=>∃ e st',loopEnd s h' h.size=some (e,st')∧R e st') {Q:Exit→Act→World→Prop}
  (hn:∀ e st',R e st'→Evol h st'.h→∀ a' w',At E lo nt μ0 w0 ds st'.s st'.h a' w'→Q e.toX a' w'):(Code.rangeFunc f ps ax bx).wpIn (F0 none) 0 E.P Q a w:=by
 obtain ⟨μ,ν,k1,k2,C,k4,k5,k6⟩:=cy;have b7:=cd C hf d1;simp only [VRel] at b7;obtain ⟨a6,f1,c1,e1,e2,e3,e4⟩:=b7;have U:h.size=μ.length:=k2.len.symm;refine wpIn_rangeFunc fun fn _=>?_
 let rec0:Loop:={ state:=.ready,pending:=none,fn:=fn,tmps:=a.tmps,params:=ps,assign:=ax,body:=bx,defers:=w.heap.size }
 let w1:World:=w.alloc (.deferred (some []))
 let V:World:=w1.alloc (.loop rec0)
 let m:M:=⟨w.heap.size+1,0,0,0⟩
 let μ1:MM:=μ++[some m]
 have bb:w1.heap.size=w.heap.size+1:=by simp [w1]
 have e6:V.heap.size=w.heap.size+2:=by simp [V,w1]
 have ac:VRels E μ1 (first++[.yield h.size]++cp) (f1 ++ #[Value.func (.yield (w.heap.size+1)) #[] #[]]++c1).toList:=by
  have hy:VRel E μ1 (.yield h.size) (.func (.yield (w.heap.size+1)) #[] #[]):=by simp only [VRel];exact ⟨w.heap.size+1,some m,rfl,by rw [U]; simp [μ1],fun m' d=>by cases d; rfl⟩
  have:=((e3.later (g9 μ (some m))).append (show VRels E μ1 [.yield h.size] [_] from by simp only [VRels]; exact ⟨_,[],rfl,hy,rfl⟩)).append (e4.later (g9 μ (some m)));simpa using this
 have ad:Later μ μ1:=g9 μ _
 have d3:Rel E μ h w1:=k2.keep (by omega) (fun i m' d=>by
  have:=k2.lt i m' d;show (w.heap.push _)[m'.blk]? = _;rw [c8,if_neg (by omega)]) fun k _ hk=>by
  show (w.heap.push _)[k]? = _
  rw [c8,if_neg (by omega)]
 have d4:Rel E μ1 (h.push (.loop g .ready none sl)) V:=by
  refine d3.push _ (.loop rec0) m (by simp [m,bb]) ⟨m,rec0,by simp,by show (w1.heap.push _)[w.heap.size+1]? = _; rw [c8,if_pos (by omega)],⟨⟨⟨ps.toList,aa,ab⟩,ha,hb,b6,rfl,fun t ht=>?_,by rw [show rec0.tmps.size=nt from k4]; exact cv,by rw [show rec0.tmps.size=nt from k4]; exact cx⟩,rfl,rfl,fun k x hk=>?_⟩⟩
  ·rw [Array.all_eq_true_iff_forall_mem] at b5;have:=b5 t (by simpa using ht);rw [show rec0.tmps.size=nt from k4];simpa using this
  ·obtain ⟨v',h1,h2⟩:=zbc C d2 k x hk;exact ⟨v',h1,h2.later ad⟩
 let ν1:Fr:=⟨ν.v,w.heap.size :: ν.ds⟩
 have J:∀ b,b < w.heap.size→V.heap[b]? = w.heap[b]?:=fun b hb=>by
  show ((w.heap.push _).push _)[b]? = _
  rw [c8,if_neg (by simp; omega),c8,if_neg (by omega)]
 have G:∀ (i:Nat) (m':M),μ1[i]? = some (some m')→m'.blk < w.heap.size∨m'.blk=w.heap.size+1:=fun i m' d=>by
  rcases iq d with q | ⟨_,q⟩
  ·exact .inl (k2.lt i m' q)
  ·cases q; exact .inr rfl
 have hold:∀ (i:Nat) (m':M),μ1[i]? = some (some m')→m'.blk < w.heap.size→μ[i]? = some (some m'):=fun i m' d d5=>by
  rcases iq d with q | ⟨_,q⟩
  ·exact q
  ·cases q;have e5:w.heap.size+1 < w.heap.size:=d5;omega
 have d6:FRel E lo ν1 μ1 (sget s) a.tmps V:=by
  refine ⟨fun t v hv=>?_,C.undef,fun t cs hv=>?_,C.loc,C.sepv,fun t cs i m' hv d=>?_,fun r hr=>?_,fun r hr=>⟨fun i m' d=>?_,fun t cs hv=>?_⟩,?_⟩
  ·obtain ⟨v',h1,h2⟩:=C.val t v hv;exact ⟨v',h1,h2.later ad⟩
  ·obtain ⟨h1,h2,c,e,fr,h3,h4,h5,h6⟩:=C.var t cs hv;exact ⟨h1,h2,c,e,fr,(J _ (C.lt hv)).trans h3,h4,h5.later ad,h6⟩
  ·have:=C.lt hv;rcases G i m' d with q | q
   ·exact C.sepm t cs i m' hv (hold i m' d q)
   ·intro e;have e':m'.blk=ν t:=e;omega
  ·rcases cj.1 hr with rfl | hr
   ·refine ⟨k6,?_⟩;show ((w.heap.push _).push _)[w.heap.size]? = _;rw [c8,if_neg (by simp),c8,if_pos rfl]
   ·obtain ⟨h1,h2⟩:=C.ds r hr;exact ⟨h1,(J r (C.lt_ds hr)).trans h2⟩
  ·rcases cj.1 hr with rfl | hr
   ·rcases G i m' d with q | q <;> omega
   ·have:=C.lt_ds hr;rcases G i m' d with q | q
    ·exact (C.sepd r hr).1 i m' (hold i m' d q)
    ·omega
  ·rcases cj.1 hr with rfl | hr
   ·have:=C.lt hv;intro e;have e':ν t=w.heap.size:=e;omega
   ·exact (C.sepd r hr).2 t cs hv
  ·exact ⟨List.nodup_cons.2 ⟨fun h=>by have:=C.lt_ds h; omega,C.nodup.1⟩,C.nodup.2⟩
 have d8:Step (fun k=>lo≤k) h.wmin μ0 w0 μ1 V:=(k1.trans (Step.alloc _) (aj _)).trans (Step.push (X:=fun k=>lo≤k) h.wmin μ w1 (.loop rec0) m (by simp [m,bb])) (aj _);refine ⟨w.heap.size+1,[markOf w.heap.size],V,{ target:=.fn (.func a6) c1,args:=f1 ++ #[Value.func (.yield (w.heap.size+1)) #[] #[]] },V,a6,f1 ++ #[Value.func (.yield (w.heap.size+1)) #[] #[]]++c1,V,run_enterLoop_outer fn a.tmps ps ax bx,?_,fun _ _=>trivial,?_,fun hh=>by simp [F0,Fence.wide] at hh,?_⟩
 ·simp only [resolve];rw [e1];simp [Deferred.ofValue,Act.eval]
 ·have:=jd hg e2 (f1 ++ #[Value.func (.yield (w.heap.size+1)) #[] #[]]++c1) V;simpa [invoke] using this
 ·refine CallsIn.mono (F:=F0 none) (n:=0) (a0 a6 e2 μ1 V _ ac d4) ?_;rintro ci w3 ⟨_,h',⟨e,st',y,hR⟩,al,v',μ3,rfl,j1,j2,j3⟩;have bm:Evol h h':=(Evol.push _ _).trans al;unfold loopEnd at y;split at y;case h_2=>cases y
  rename_i g2 st p e7 d9;split at y
  ·cases y
  rename_i an;cases y;obtain ⟨m3,r3,W,q2,q3⟩:=j3.obj _ _ d9;have hi1:h.size < μ1.length:=by rw [U]; simp [μ1]
  have dd:m3=m:=by
   rcases j1.old h.size hi1 with q | ⟨_,q⟩
   ·rw [q] at W;have:μ1[h.size]? = some (some m):=by rw [U]; simp [μ1]
    rw [this] at W;cases W; rfl
   ·rw [q] at W; cases W
  subst dd
  have c4:r3.state ≠ .busy:=by
   have:=q3.st;cases st <;> simp only [LoopSt.is] at this <;> rw [this]
   ·simp
   ·exact absurd rfl an
   ·simp
  let w4:World:=w3.putObj (w.heap.size+1) (.loop { r3 with state:=.exhausted })
  have ao:FRel E lo ν1 μ3 (sget s) a.tmps w3:=d6.step j1 fun _ _ h=>h
  have c5:h'.wmin≤h.wmin:=al.wmin
  have O:At E lo nt μ0 w0 ds s (h'.put h.size .dead) { a with defers:=[markOf w.heap.size]++a.defers } w4:=by
   have D:w4=cz w3 m.blk (.loop { r3 with state:=.exhausted }):=rfl;refine ⟨μ3.set h.size none,ν1,?_,?_,?_,k4,?_,?_⟩
   ·have hA:=d8.trans (j1.weaken (Y:=fun k=>lo≤k) (aj _) fun b h _=>h.elim) c5;have hB:Step (fun k=>lo≤k) (h'.put h.size .dead).wmin μ3 w3 μ3 w4:=by rw [D]; exact Step.put W (fj _ _) _
    have hC:Step (fun k=>lo≤k) (h'.put h.size .dead).wmin μ3 w4 (μ3.set h.size none) w4:=Step.kill μ3 w4 (fj _ _);exact (hA.trans hB (cr _ _)).trans hC (aj _)
   ·have ay:=j3.kill h.size;refine ay.keep (by simp [w4]) (fun j m' d=>?_) fun k hk _=>by rw [D]; exact bo (by have:=k2.tab.1; simp [m]; omega)
    rw [D];refine bo ?_;rw [n5] at d;split at d
    ·split at d <;> cases d
    ·rename_i dl;refine j3.sep h.size j m m' dl ?_ W d;have h1:=j3.bs;rw [al.base];have:=k2.bs;show h.base≤h.objs.length;exact this
   ·refine ao.keep (ni μ3 h.size) (fun t cs hv=>by rw [D]; exact bo (ao.sepm t cs h.size m hv W)) (fun t cs j m' hv hj d=>absurd (ah d) (by simp; omega)) fun r hr=>⟨by rw [D]; exact bo ((ao.sepd r hr).1 h.size m W),fun j m' hj d=>absurd (ah d) (by simp; omega)⟩
   ·show [markOf w.heap.size]++a.defers=_
    rw [k5]; rfl
   ·have:=j1.size;simp only [w4,World.putObj_size]; omega
  refine ⟨r3.pending,w4,run_endLoop q2 c4,?_⟩;rw [q3.pend];have hn:=hn _ _ hR (bm.trans (Evol.put _ _ _));cases p with
  | none=>exact hn _ _ O
  | some e0 =>
   cases e0 with
   | normal=>exact wpIn_skip (hn _ _ O)
   | exit id=>exact wpIn_exit (hn _ _ O)
   | ret=>exact wpIn_ret (hn _ _ O)
theorem inv_rangeFunc {nt:Nat} {hint:Hint} {code:Code} {C:Opd} {g:Nat} {caps ps:List Nat} {D ab:ACode} (h:co E nt false hint code=some (.rangeFunc C g caps ps D ab)):∃ ha hb f j x y,code = .rangeFunc f j x y∧gq E f=some C∧co E nt true ha x=some D∧co E nt true hb y=some ab∧(j.all fun t=>decide (t < nt))=true∧ps=j.toList:=by
 cases hint with
 | rangeFunc g caps ha hb =>
  cases code <;> simp only [co,reduceCtorEq] at h
  split at h
  ·rename_i h0 h1 h2;split at h
   ·rename_i G;cases h; exact ⟨_,_,_,_,_,_,rfl,h0,h1,h2,G.2,rfl⟩
   ·cases h
  ·cases h
 | next=>obtain ⟨d,y,r,e⟩:=l8 h; cases e
 | live l a=>simp only [co,ae] at h; obtain ⟨_,_,h⟩:=h; cases h
 | after a l=>simp only [co,ae] at h; obtain ⟨_,_,h⟩:=h; cases h
 | stuck=>simp only [co] at h; cases h
 | leaf=>cases code <;> simp only [co] at h <;> cases h
 | reg s l=>cases code <;> simp only [co,ae,reduceCtorEq] at h; obtain ⟨_,_,h⟩:=h; cases h
 | seq a b =>
  cases code <;> simp only [co,reduceCtorEq] at h
  split at h <;> cases h
 | cond a b =>
  cases code <;> simp only [co,reduceCtorEq] at h
  split at h <;> cases h
 | block a=>cases code <;> simp only [co,ae,reduceCtorEq] at h; obtain ⟨_,_,h⟩:=h; cases h
 | loop a=>cases code <;> simp only [co,ae,reduceCtorEq] at h; obtain ⟨_,_,h⟩:=h; cases h
theorem CodeD.rangeFunc (W:GidOK E) {O:Opd} {g:Nat} {caps ps:List Nat} {X ab:ACode} {st:St} {Q:AExit→St→Prop} {U:Nat} {first V:List AVal} {sl:List (Nat × AVal)} (j:O.ev st.s=some (.func U first V)) (C:capsOf st.s caps=some sl)
  (d:CallD E U (first++[.yield st.h.size]++V) (st.h.push (.loop g .ready none sl)) fun _ h'=>∃ e st',loopEnd st.s h' st.h.size=some (e,st')∧Q e st'):CodeD E (.rangeFunc O g caps ps X ab) st Q:=by
 intro nt hint code D G lo μ0 w0 ds a w Qm J hn;obtain ⟨ha,hb,f,qs,x,y,rfl,h0,h1,h2,h3,rfl⟩:=inv_rangeFunc D;exact yp W h0 h1 h2 h3 (G _ (dp _)) J j C d hn
end
end Go.Abs

namespace Go.Abs.AbsBlo
open Go.Abs.AbsBlb hiding T
open Go.Abs.Short
section
variable {E:Env} {P H:List AObj} {b w:Nat}
section
attribute [-simp] getElem?_pos getElem?_neg List.all_eq_true
attribute [local simp] qZ qS nltT nltF iltT iltF ileT nleT di
theorem s505z {a:Option (Nat × Nat)} {c:Option Nat}:xCall T 505 [.slice a 0 c] ⟨H,b,w⟩=some (.tuple [],⟨H,b,w⟩):=by
 have d:∀ w,xCall T 531 [.slice a 0 c,.int .i64 0,.int .i64 0] ⟨H,b,w⟩=some (.tuple [],⟨H,b,w⟩):=fun w=>by simp (disch:=omega) [bg t531,code531,b9,code531L1]
 have e:∀ l w,xCall T 513 [.slice a 0 c,.int .i64 0,.int .i64 0,.int .i64 l] ⟨H,b,w⟩=some (.tuple [],⟨H,b,w⟩):=fun l w=>by simp (disch:=omega) [bg t513,code513,b9,code513L0,d]
 obtain ⟨k,j⟩:=s166 (n:=0) (h:=⟨H,b,H.length⟩) (by omega);simp only [bf] at j;have j:=cf sub j;have y:IntKind.u64.wrap 0=0:=by decide
 simp (disch:=omega) [bg t505,code505,j,e,y]
theorem s495z {c:Option Nat} {f:AVal}:xCall T 495 [.slice none 0 c,f] ⟨H,b,w⟩=some (.slice none 0 c,⟨H,b,w⟩):=by
 have d:∀ w,xCall T 142 [.slice none 0 c,f] ⟨H,b,w⟩=some (.int .i64 (-1),⟨H,b,w⟩):=fun w=>by simp (disch:=omega) [bg t142,code142,b9,code142L0]
 simp (disch:=omega) [bg t495,code495,d]
theorem s496 {m:Nat} (hm:m < H.length):xCall T 496 [.map (some m)] ⟨H,b,w⟩=some (.func 507 [] [.ptr (some (H.length,0))],⟨H++[.cells 1 [.map (some m)]],b,w⟩):=by simp (disch:=omega) [bg t496,code496,jz,j9,wj,hm]
end
end
end Go.Abs.AbsBlo

namespace Go.Abs.AbsBlo
open Go.Abs.AbsBlb hiding T
open Go.Abs.Short
section
attribute [-simp] getElem?_pos getElem?_neg List.all_eq_true
attribute [local simp] qZ qS nltT nltF iltT iltF ileT nleT di
theorem s542 {x:Bs} {h:Heap}:xCall T 542 [.str x] h=some (.bool false,h):=by obtain ⟨os,b,w⟩:=h;simp (disch:=omega) [bg t542,code542]
theorem s525 {x y:Bs} {h:Heap}:xCall T 525 [.str x,.str y] h=some (.bool (aBytesLess x y),h):=by
 obtain ⟨os,b,w⟩:=h;have d:=fun x h=>s542 (x:=x) (h:=h)
 simp (disch:=omega) [bg t525,code525,d]
end
def leB (x y:Bs):Bool:=!aBytesLess y x
theorem n7:∀ x:Bs,aBytesLess x x=false
 | []=>rfl
 | a :: x=>by unfold aBytesLess;rw [n7 x];have:¬ a < a:=UInt8.lt_irrefl a;simp [this]
theorem ve:∀ {x y:Bs},aBytesLess x y=true→aBytesLess y x=false
 | [],[],h=>by cases h
 | [],_ :: _,_=>rfl
 | _ :: _,[],h=>by cases h
 | a :: x,b :: y,h=>by
  unfold aBytesLess at h ⊢;simp only [c9,bc,decide_eq_true_eq,beq_iff_eq,UInt8.lt_iff_toNat_lt] at h;simp only [i9,Bool.and_eq_false_iff,decide_eq_false_iff_not,beq_eq_false_iff_ne,UInt8.lt_iff_toNat_lt];rcases h with h | ⟨rfl,h⟩
  ·exact ⟨by omega,.inl fun e=>by rw [e] at h; omega⟩
  ·exact ⟨by omega,.inr (ve h)⟩
theorem yo:∀ {x y z:Bs},leB x y=true→leB y z=true→leB x z=true
 | [],_,z,_,_=>by unfold leB;cases z <;> rfl
 | a :: x,[],_,h,_=>by cases h
 | a :: x,b :: y,[],_,h=>by cases h
 | a :: x,b :: y,c :: z,h1,h2=>by
  have d:=@yo x y z;unfold leB at h1 h2 d ⊢;unfold aBytesLess at h1 h2 ⊢;simp only [ep,i9,Bool.and_eq_false_iff,decide_eq_false_iff_not,beq_eq_false_iff_ne,UInt8.lt_iff_toNat_lt] at h1 h2 d ⊢;obtain ⟨G,j⟩:=h1;obtain ⟨J,C⟩:=h2;refine ⟨by omega,?_⟩;by_cases e:c=a
  ·subst e;have D:b=c:=UInt8.toNat_inj.1 (by omega);subst D;exact .inr (d (j.resolve_left fun f=>f rfl) (C.resolve_left fun f=>f rfl))
  ·exact .inl e
def SrtTo (L:List Bs) (i:Nat):Prop:=∀ (a b:Nat) (x y:Bs),a < b→b≤i→L[a]? = some x→L[b]? = some y→leB x y=true
def SrtBut (L:List Bs) (i j:Nat):Prop:=∀ (a b:Nat) (x y:Bs),a < b→b≤i→b≠j→L[a]? = some x→L[b]? = some y→leB x y=true
theorem SrtTo.but {L:List Bs} {i:Nat} (h:SrtTo L (i - 1)):SrtBut L i i:=fun a b x y d e hb hx j=>h a b x y d (by omega) hx j
theorem SrtBut.zero {L:List Bs} {i:Nat} (h:SrtBut L i 0):SrtTo L i:=fun a b x y d e hx j=>h a b x y d e (by omega) hx j
theorem SrtBut.done {L:List Bs} {i j:Nat} {x y:Bs} (h:SrtBut L i (j+1)) (hx:L[j+1]? = some x) (J:L[j]? = some y) (hd:aBytesLess x y=false):SrtTo L i:=fun a b u v D G C hv=>by
 by_cases e:b=j+1
 ·subst e;rw [hx] at hv;cases hv;have d:leB y x=true:=by unfold leB; rw [hd]; rfl
  by_cases O:a=j
  ·subst O;rw [J] at C;cases C;exact d
  ·exact yo (h a j u y (by omega) (by omega) (by omega) C J) d
 ·exact h a b u v D G e C hv
theorem SrtBut.step {L:List Bs} {i j:Nat} {x y:Bs} (h:SrtBut L i (j+1)) (a0:j+1≤i) (hx:L[j+1]? = some x) (U:L[j]? = some y) (hd:aBytesLess x y=true):SrtBut ((L.set (j+1) y).set j x) i j:=fun a b u v G C hb d hv=>by
 have J:=ah hx;have V:((L.set (j+1) y).set j x)[j]? = some x:=bj (by rw [az]; omega)
 have W:((L.set (j+1) y).set j x)[j+1]? = some y:=by rw [aq (by omega)];exact bj J
 have O:∀ k,k≠j→k≠j+1→((L.set (j+1) y).set j x)[k]? = L[k]?:=fun k h1 h2=>by rw [aq (fun e=>h1 e.symm),aq (fun e=>h2 e.symm)]
 have Q:leB x y=true:=by unfold leB; rw [ve hd]; rfl
 by_cases e:b=j+1
 ·subst e;rw [W] at hv;cases hv;by_cases D:a=j
  ·subst D;rw [V] at d;cases d;exact Q
  ·rw [O a D (by omega)] at d;exact h a j u y (by omega) (by omega) (by omega) d U
 ·rw [O b hb e] at hv;by_cases D:a=j
  ·subst D;rw [V] at d;cases d;exact h (a+1) b x v (by omega) C e hx hv
  ·by_cases X:a=j+1
   ·subst X;rw [W] at d;cases d;exact h j b y v (by omega) C e U hv
   ·rw [O a D X] at d;exact h a b u v G C e d hv
theorem SrtTo.all {L:List Bs} (h:SrtTo L (L.length - 1)):L.Pairwise fun x y=>leB x y=true:=by rw [List.pairwise_iff_getElem];intro i j hi e d;exact h i j _ _ d (by omega) (ai hi) (ai e)
section
variable {H:List AObj} {b q n:Nat} {c:Option Nat}
section
attribute [-simp] getElem?_pos getElem?_neg List.all_eq_true
attribute [local simp] qZ qS nltT nltF iltT iltF ileT nleT di
theorem l531a (a0:b≤q) (C:q < H.length) (hn:n≤1000000) {i:Nat} :
  ∀ (j:Nat) (L:List Bs) (w:Nat),j < n→L.length=n→∃ L' w',(L'.Perm L∧(j≤i→SrtBut L i j→SrtTo L' i)∧(w'≤q∨L'=L))∧min w q≤w'∧w'≤w∧∀ {β:Type} (k:AExit→St→Option β),
  xK T (.loop code531L0) ⟨[(0,.val (.slice (some (q,0)) n c)),(1,.val (.int .i64 0)),(2,.val (.int .i64 n)),(6,.val (.int .i64 i)),(7,.val (.int .i64 j))],⟨H.set q (strsO L),b,w⟩⟩ (k:=⟨k⟩) =
   k (.exit 2) ⟨[(0,.val (.slice (some (q,0)) n c)),(1,.val (.int .i64 0)),(2,.val (.int .i64 n)),(6,.val (.int .i64 i))],⟨H.set q (strsO L'),b,w'⟩⟩
 | 0,L,w,hj,J=>by refine ⟨L,w,⟨.refl _,fun _ hs=>hs.zero,.inr rfl⟩,cr _ _,aj _,fun k=>?_⟩;rw [b9];simp (disch:=omega) [code531L0]
 | j+1,L,w,hj,J=>by
  obtain ⟨x,hx⟩:∃ x,L[j+1]? = some x:=⟨_,ai (by omega)⟩;obtain ⟨y,O⟩:∃ y,L[j]? = some y:=⟨_,ai (by omega)⟩;have gx:(L.map AVal.str)[j+1]? = some (.str x):=by rw [bp,hx]; rfl
  have gy:(L.map AVal.str)[j]? = some (.str y):=by rw [bp,O]; rfl
  have e:=fun w=>s525 (x:=x) (y:=y) (h:=⟨H.set q (strsO L),b,w⟩)
  have ej:((j+1:Nat):Int)=(j:Int)+1:=by omega
  cases d:aBytesLess x y with
  | true =>
   let X:=(L.set (j+1) y).set j x
   have hp:X.Perm L:=by
    have:=@List.set_set_perm _ L (j+1) j (by omega) (by omega);have e1:L[j+1]=x:=by rw [ai (by omega)] at hx; exact ce hx
    have e2:L[j]=y:=by rw [ai (by omega)] at O; exact ce O
    rw [e1,e2] at this;exact this
   obtain ⟨L',w',p1,p2,p3,p4⟩:=l531a (i:=i) a0 C hn j X (min (min w q) q) (by omega) (by rw [hp.length_eq]; exact J);refine ⟨L',w',⟨p1.1.trans hp,fun hi hs=>p1.2.1 (by omega) (hs.step hi hx O d),.inl (by omega)⟩,by omega,by omega,fun k=>?_⟩;rw [b9,← p4 k];have D:(L.map AVal.str).length=n:=by rw [a7]; exact J
   have Q:(L.map AVal.str).set (j+1) (.str y)=(L.set (j+1) y).map AVal.str:=by rw [List.map_set]
   have U:((L.set (j+1) y).map AVal.str).set j (.str x)=X.map AVal.str:=by rw [← List.map_set]
   rw [← lh _ (by rw [a7]; omega)] at Q;rw [← lh _ (by rw [a7,az]; omega)] at U
   have V:AVal.idsL ((L.set (j+1) y).map AVal.str)=[]:=idsL_none fun v hv=>by obtain ⟨z,-,rfl⟩:=bt.1 hv;simp [AVal.ids]
   have W:((L.set (j+1) y).map AVal.str).length=n:=by rw [a7,az]; exact J
   have G:∀ o,(H.set q o)[q]? = some o:=fun o=>bj C
   have a6:∀ o o',(H.set q o).set q o'=H.set q o':=fun o o'=>List.set_set ..
   generalize aa:X=M1 at *;rw [show ∀ M,strsO M = .cells 1 (M.map AVal.str) from fun _=>rfl] at e ⊢;rw [show ∀ M,strsO M = .cells 1 (M.map AVal.str) from fun _=>rfl];generalize (L.set (j+1) y).map AVal.str=Y1 at *;generalize L.map AVal.str=Y at *;generalize M1.map AVal.str=Y2 at *;generalize ACode.loop code531L0=LL;rw [d] at e;simp (disch:=omega) [-sget,zq,vj,zr,-ew,lq,lr,jf,code531L0,ex,benign,again,AVal.eqb,G,a6,gx,gy,e,D,W,Q,U,V,ej]
  | false =>
   refine ⟨L,w,⟨.refl _,fun _ hs=>hs.done hx O d,.inr rfl⟩,cr _ _,aj _,fun k=>?_⟩;rw [b9];have D:(L.map AVal.str).length=n:=by rw [a7]; exact J
   rw [show ∀ M,strsO M = .cells 1 (M.map AVal.str) from fun _=>rfl] at e ⊢;have G:∀ o,(H.set q o)[q]? = some o:=fun o=>bj C
   generalize L.map AVal.str=Y at *;generalize ACode.loop code531L0=LL;rw [d] at e;simp (disch:=omega) [code531L0,G,gx,gy,e,D,ej]
theorem l531b (j:b≤q) (C:q < H.length) (U:n≤1000000) :
  ∀ (d i:Nat) (L:List Bs) (w:Nat),i+d=n∨(n≤i∧d=0)→L.length=n→∃ L' w',(L'.Perm L∧(1≤i→SrtTo L (i - 1)→SrtTo L' (n - 1))∧(w'≤q∨L'=L))∧min w q≤w'∧w'≤w∧∀ {β:Type} (k:AExit→St→Option β),
  xK T (.loop code531L1) ⟨[(0,.val (.slice (some (q,0)) n c)),(1,.val (.int .i64 0)),(2,.val (.int .i64 n)),(6,.val (.int .i64 i))],⟨H.set q (strsO L),b,w⟩⟩ (k:=⟨k⟩) =
   k (.exit 0) ⟨[],⟨H.set q (strsO L'),b,w'⟩⟩
 | 0,i,L,w,hd,G=>by
  refine ⟨L,w,⟨.refl _,fun hi hs=>fun a b x y J W hx X=>hs a b x y J (by omega) hx X,.inr rfl⟩,cr _ _,aj _,fun k=>?_⟩;have:¬ ((i:Int) < n):=by omega
  rw [b9];simp (disch:=omega) [code531L1,this]
 | d+1,i,L,w,hd,G=>by
  obtain ⟨L1,w1,D,p2,p3,p4⟩:=l531a (c:=c) j C U (i:=i) i L w (by omega) G;obtain ⟨L',w',O,q2,q3,q4⟩:=l531b j C U d (i+1) L1 w1 (by omega) (by rw [D.1.length_eq]; exact G);refine ⟨L',w',⟨O.1.trans D.1,fun hi hs=>O.2.1 (by omega) (D.2.1 (aj _) hs.but),?_⟩,by omega,by omega,fun k=>?_⟩
  ·rcases O.2.2 with e | e
   ·exact .inl e
   ·rcases D.2.2 with V | V
    ·exact .inl (by omega)
    ·exact .inr (e.trans V)
  rw [b9,← q4 k];have ei:((i+1:Nat):Int)=(i:Int)+1:=by omega
  rw [ei];have Q:(i:Int) < n:=by omega
  have a0:i≤1000000:=by omega
  generalize ACode.loop code531L1=LL;simp (disch:=omega) [code531L1,p4,Q]
theorem s505 (O:b≤q) (Q:q < H.length) {L:List Bs} (hn:L.length≤12) (h0:L.length=n) (hq:H[q]? = some (strsO L)) :
  ∃ L',∃ U:Nat→Nat,(L'.Perm L∧L'.Pairwise fun x y=>leB x y=true)∧(∀ w,min w q≤U w∧U w≤w)∧∀ w,xCall T 505 [.slice (some (q,0)) n c] ⟨H,b,w⟩=some (.tuple [],⟨H.set q (strsO L'),b,U w⟩):=by
 obtain ⟨L',w',⟨W,ps,pw⟩,p2,p3,G⟩:=l531b (c:=c) O Q (by omega) (n - 1) 1 L H.length (by omega) h0;have d:L'.Pairwise fun x y=>leB x y=true:=SrtTo.all (by rw [W.length_eq,h0]; exact ps (aj _) fun a b x y a0 hb=>by omega)
 have hs:H.set q (strsO L)=H:=np hq;rw [hs] at G;simp only [bf] at G;have hl:(H.set q (strsO L')).length=H.length:=az;obtain ⟨k,J⟩:=s166 (n:=n) (h:=⟨H,b,H.length⟩) (by omega);have J:=cf sub J;have X:IntKind.u64.wrap (n:Int)=n:=n9 (by omega);have D:(n:Int)≤12:=by omega
 by_cases hw:w' < H.length
 ·have j:∀ w,xCall T 531 [.slice (some (q,0)) n c,.int .i64 0,.int .i64 n] ⟨H,b,w⟩=some (.tuple [],⟨H.set q (strsO L'),b,min w w'⟩):=fun w=>by simp (disch:=omega) [bg t531,code531,G,hw]
  have C:∀ l w,xCall T 513 [.slice (some (q,0)) n c,.int .i64 0,.int .i64 n,.int .i64 l] ⟨H,b,w⟩=some (.tuple [],⟨H.set q (strsO L'),b,min w w'⟩):=fun l w=>by simp (disch:=omega) [bg t513,code513,b9,code513L0,j,D,hw]
  refine ⟨L',fun w=>min w w',⟨W,d⟩,fun w=>by show min w q≤min w w'∧min w w'≤w; omega,fun w=>?_⟩;simp (disch:=omega) [bg t505,code505,C,J,X,hw]
 ·have j:∀ w,xCall T 531 [.slice (some (q,0)) n c,.int .i64 0,.int .i64 n] ⟨H,b,w⟩=some (.tuple [],⟨H,b,w⟩):=fun w=>by simp (disch:=omega) [bg t531,code531,G,hw]
  have C:∀ l w,xCall T 513 [.slice (some (q,0)) n c,.int .i64 0,.int .i64 n,.int .i64 l] ⟨H,b,w⟩=some (.tuple [],⟨H,b,w⟩):=fun l w=>by simp (disch:=omega) [bg t513,code513,b9,code513L0,j,D,hw]
  have V:L'=L:=by
   rcases pw with e | e
   ·omega
   ·exact e
  rw [V] at d;refine ⟨L,fun w=>w,⟨.refl _,d⟩,fun w=>by show min w q≤w∧w≤w; omega,fun w=>?_⟩;rw [hs];simp (disch:=omega) [bg t505,code505,C,J,X,hw]
end
end
end Go.Abs.AbsBlo

namespace Go.Abs.AbsBlo
open Go.Abs.AbsBlb hiding T
open Go.Abs.Short
def kp (p:Bs→Bool) (x:Bs):Bool:=!p x
section
variable {H:List AObj} {b q n cb:Nat} {c:Option Nat} {p:Bs→Bool}
section
attribute [-simp] getElem?_pos getElem?_neg List.all_eq_true
attribute [local simp] qZ qS nltT nltF iltT iltF ileT nleT di
theorem l142k {L:List Bs} (Q:L.length=n) (W:n≤1000000) (J:H[q]? = some (strsO L)) (U:∀ (x:Bs) (w:Nat),xCall T 494 [.str x,.ptr (some (cb,0))] ⟨H,b,w⟩=some (.bool (p x),⟨H,b,w⟩)):∀ (d i w:Nat),i+d=n →
  ((L.drop i).filter (kp p)=L.drop i∧∀ {β:Type} (k:AExit→St→Option β),xK T (.loop code142L0) ⟨[(0,.val (.slice (some (q,0)) n c)),(1,.val (.func 494 [] [.ptr (some (cb,0))])),(7,.val (.int .i64 n)),(8,.val (.int .i64 i))],⟨H,b,w⟩⟩ (k:=⟨k⟩)=k (.exit 0) ⟨[],⟨H,b,w⟩⟩) ∨
  (∃ j,i≤j∧j < n∧(L.drop i).filter (kp p)=(L.drop i).take (j - i)++(L.drop (j+1)).filter (kp p)∧∀ {β:Type} (k:AExit→St→Option β),xK T (.loop code142L0) ⟨[(0,.val (.slice (some (q,0)) n c)),(1,.val (.func 494 [] [.ptr (some (cb,0))])),(7,.val (.int .i64 n)),(8,.val (.int .i64 i))],⟨H,b,w⟩⟩ (k:=⟨k⟩)=k .ret ⟨[(4,.val (.int .i64 j))],⟨H,b,w⟩⟩)
 | 0,i,w,hi=>by
  have hd:L.drop i=[]:=dk (by omega);refine .inl ⟨by rw [hd]; rfl,fun k=>?_⟩;rw [b9];have:¬ ((i:Int) < n):=by omega
  simp (disch:=omega) [code142L0,this]
 | d+1,i,w,hi=>by
  obtain ⟨x,hx⟩:∃ x,L[i]? = some x:=⟨_,ai (by omega)⟩;have V:(L.map AVal.str)[i]? = some (.str x):=by rw [bp,hx]; rfl
  have y:=iy hx;have C:(i:Int) < n:=by omega
  have e:=U x;have D:(L.map AVal.str).length=n:=by rw [a7]; exact Q
  unfold strsO at J;have X:((i+1:Nat):Int)=(i:Int)+1:=by omega
  cases O:p x with
  | true =>
   refine .inr ⟨i,aj _,by omega,?_,fun k=>?_⟩
   ·rw [y,List.filter_cons_of_neg (by simp [kp,O]),qh]; rfl
   ·rw [b9];rw [O] at e;generalize L.map AVal.str=Y at *;generalize ACode.loop code142L0=LL;simp (disch:=omega) [code142L0,C,J,V,D,e]
  | false =>
   have G:kp p x=true:=by simp [kp,O]
   have step:∀ {β:Type} (k:AExit→St→Option β),xK T (.loop code142L0) ⟨[(0,.val (.slice (some (q,0)) n c)),(1,.val (.func 494 [] [.ptr (some (cb,0))])),(7,.val (.int .i64 n)),(8,.val (.int .i64 i))],⟨H,b,w⟩⟩ (k:=⟨k⟩)=xK T (.loop code142L0) ⟨[(0,.val (.slice (some (q,0)) n c)),(1,.val (.func 494 [] [.ptr (some (cb,0))])),(7,.val (.int .i64 n)),(8,.val (.int .i64 (i+1:Nat)))],⟨H,b,w⟩⟩ (k:=⟨k⟩):=fun k=>by rw [b9,X];rw [O] at e;generalize L.map AVal.str=Y at *;generalize ACode.loop code142L0=LL;simp (disch:=omega) [code142L0,C,J,V,D,e]
   rcases l142k Q W J U d (i+1) w (by omega) with ⟨h1,h2⟩ | ⟨j,h1,h2,h3,h4⟩
   ·exact .inl ⟨by rw [y,List.filter_cons_of_pos G,h1],fun k=>(step k).trans (h2 k)⟩
   ·refine .inr ⟨j,by omega,h2,?_,fun k=>(step k).trans (h4 k)⟩;rw [y,List.filter_cons_of_pos G,h3,show j - i=(j - (i+1))+1 by omega,List.take_succ_cons,fh]
theorem s142k {L:List Bs} (e:L.length=n) (y:n≤1000000) (C:H[q]? = some (strsO L)) (D:∀ (x:Bs) (w:Nat),xCall T 494 [.str x,.ptr (some (cb,0))] ⟨H,b,w⟩=some (.bool (p x),⟨H,b,w⟩)) :
  (L.filter (kp p)=L∧∀ w,xCall T 142 [.slice (some (q,0)) n c,.func 494 [] [.ptr (some (cb,0))]] ⟨H,b,w⟩=some (.int .i64 (-1),⟨H,b,w⟩)) ∨
  (∃ j:Nat,j < n∧L.filter (kp p)=L.take j++(L.drop (j+1)).filter (kp p)∧∀ w,xCall T 142 [.slice (some (q,0)) n c,.func 494 [] [.ptr (some (cb,0))]] ⟨H,b,w⟩=some (.int .i64 j,⟨H,b,w⟩)):=by
 rcases l142k (c:=c) e y C D n 0 H.length (by omega) with ⟨h1,h2⟩ | ⟨j,h1,h2,G,d⟩
 ·simp only [bf] at h2;refine .inl ⟨h1,fun w=>?_⟩;simp (disch:=omega) [bg t142,code142,h2]
 ·simp only [bf] at d;refine .inr ⟨j,h2,G,fun w=>?_⟩;simp (disch:=omega) [bg t142,code142,d]
theorem l495 (G:b≤q) (y:q < H.length) (hn:n≤1000000) (hg:∀ (R:List Bs) (x:Bs) (w:Nat),xCall T 494 [.str x,.ptr (some (cb,0))] ⟨H.set q (strsO R),b,w⟩=some (.bool (p x),⟨H.set q (strsO R),b,w⟩)) :
  ∀ (d j i:Nat) (R:List Bs) (w:Nat),j+d=n→i < j→R.length=n→∃ C D w',C.length=n∧D≤n∧C.take D=R.take i++(R.drop j).filter (kp p)∧min w q≤w'∧w'≤w∧∀ {β:Type} (k:AExit→St→Option β),
  xK T (.loop code495L0) ⟨[(0,.val (.slice (some (q,0)) n c)),(1,.val (.func 494 [] [.ptr (some (cb,0))])),(5,.val (.int .i64 i)),(6,.val (.int .i64 j))],⟨H.set q (strsO R),b,w⟩⟩ (k:=⟨k⟩) =
   k (.exit 0) ⟨[(0,.val (.slice (some (q,0)) n c)),(5,.val (.int .i64 D))],⟨H.set q (strsO C),b,w'⟩⟩
 | 0,j,i,R,w,hj,a0,J=>by
  have hd:R.drop j=[]:=dk (by omega);refine ⟨R,i,w,J,by omega,by rw [hd]; simp,cr _ _,aj _,fun k=>?_⟩;rw [b9];have:¬ ((j:Int) < n):=by omega
  simp (disch:=omega) [code495L0,this]
 | d+1,j,i,R,w,hj,a0,J=>by
  obtain ⟨x,hx⟩:∃ x,R[j]? = some x:=⟨_,ai (by omega)⟩;have gx:(R.map AVal.str)[j]? = some (.str x):=by rw [bp,hx]; rfl
  have O:=iy hx;have Q:(j:Int) < n:=by omega
  have e:=hg R x;have U:(R.map AVal.str).length=n:=by rw [a7]; exact J
  have ej:((j+1:Nat):Int)=(j:Int)+1:=by omega
  have ei:((i+1:Nat):Int)=(i:Int)+1:=by omega
  have V:∀ o,(H.set q o)[q]? = some o:=fun o=>bj y
  have a6:∀ o o',(H.set q o).set q o'=H.set q o':=fun o o'=>List.set_set ..
  cases X:p x with
  | true =>
   obtain ⟨C,D,w',r1,r2,r3,r4,r5,r6⟩:=l495 G y hn hg d (j+1) i R w (by omega) (by omega) J;refine ⟨C,D,w',r1,r2,by rw [r3,O,List.filter_cons_of_neg (by simp [kp,X])],r4,r5,fun k=>?_⟩;rw [b9,← r6 k,ej];rw [X] at e;unfold strsO at e ⊢;generalize R.map AVal.str=Y at *;generalize ACode.loop code495L0=LL;simp (disch:=omega) [code495L0,Q,V,gx,U,e]
  | false =>
   have aa:kp p x=true:=by simp [kp,X]
   obtain ⟨C,D,w',r1,r2,r3,r4,r5,r6⟩:=l495 G y hn hg d (j+1) (i+1) (R.set i x) (min w q) (by omega) (by omega) (by rw [az]; exact J);refine ⟨C,D,w',r1,r2,?_,by omega,by omega,fun k=>?_⟩
   ·have e1:(R.set i x).take (i+1)=R.take i++[x]:=by rw [List.take_add_one,List.take_set,List.set_eq_of_length_le (by rw [db]; omega),bj (by omega)]; rfl
    have e2:(R.set i x).drop (j+1)=R.drop (j+1):=by rw [List.drop_set_of_lt (by omega)]
    rw [r3,e1,e2,O,List.filter_cons_of_pos aa,ba]; rfl
   ·rw [b9,← r6 k,ej,ei];have W:(R.map AVal.str).set i (.str x)=(R.set i x).map AVal.str:=by rw [List.map_set]
    rw [← lh _ (by rw [a7]; omega)] at W;rw [X] at e;have hs:∀ M,strsO M = .cells 1 (M.map AVal.str):=fun _=>rfl
    rw [hs] at e ⊢;rw [hs];generalize (R.set i x).map AVal.str=Y1 at *;generalize R.map AVal.str=Y at *;generalize ACode.loop code495L0=LL;simp (disch:=omega) [code495L0,Q,V,a6,gx,U,e,W]
end
end
end Go.Abs.AbsBlo

namespace Go.Abs.AbsBlo
open Go.Abs.AbsBlb hiding T
open Go.Abs.Short
abbrev lpO (vc:Nat):AObj:=.loop 522 .ready none [(2,.ptr (some (vc,0)))]
section
variable {H P:List AObj} {b w:Nat}
theorem y522 {N lp vc:Nat} {A:List Bs} {x:AVal} (k:Bs) (d:P[lp]? = some (lpO vc)) (U:P[vc]? = some (.cells 1 [x])) (hv:vc < lp) (aa:lp < N) (hN:N≤P.length) (hb:b≤vc) (hx:FRow N 1 keyC A P x) (hA:A.length≤1000) :
  ∃ P' x',P'[lp]? = some (lpO vc)∧P'[vc]? = some (.cells 1 [x'])∧FRow N 1 keyC (A++[k]) P' x'∧(∀ (i:Nat) (o:AObj),P[i]? = some o→i≠vc→(N≤i→∀ cs,o ≠ .cells 1 cs)→P'[i]? = some o)∧P.length≤P'.length ∧
   ∀ w,xCall T 522 [.ptr (some (lp,0)),.str k] ⟨P,b,w⟩=some (.bool true,⟨P',b,min w vc⟩):=by
 have a6:=ah d;let J:=P.set lp (.loop 522 .busy none [(2,.ptr (some (vc,0)))])
 have up:∀ k o,k≠lp→P[k]? = some o→J[k]? = some o:=fun k o hk ho=>by show (P.set _ _)[k]? = _; rw [aq (fun e=>hk e.symm)]; exact ho
 have j:J.length=P.length:=az;have V:=hx.monoE (P':=J) fun k cs hk ho=>up _ _ (by omega) ho
 obtain ⟨P2,x2,n2,f1,W,f3,f4,X⟩:=V.add' (b:=b) (by':=16) (fun _=>rfl) (by omega) (by omega) (by omega) (by omega) k
 obtain ⟨a2,n3,c2,rfl⟩:∃ a n c,x2 = .slice a n c:=by
  rcases f1 with ⟨h,-⟩ | ⟨-,q,-,h,-⟩
  ·simp at h
  ·exact ⟨_,_,_,h⟩
 have y:J[vc]? = some (.cells 1 [x]):=up _ _ (by omega) U;have O:J[lp]? = some (.loop 522 .busy none [(2,.ptr (some (vc,0)))]):=ke d;have C:=W _ _ y (fun h=>by omega);have D:=W _ _ O (fun h=>by omega);have G:=ah D;have Q:=ah C;refine ⟨(P2.set vc (.cells 1 [.slice a2 n3 c2])).set lp (lpO vc),.slice a2 n3 c2,?_,?_,f1.monoE fun i cs hi ho=>?_,fun i o ho hi hN=>?_,?_,?_⟩
 ·rw [bj (by rw [az]; exact G)]
 ·rw [aq (by omega),bj Q]
 ·rw [aq (by omega),aq (by omega)]; exact ho
 ·by_cases c:i=lp
  ·subst c;rw [d] at ho;cases ho;rw [bj (by rw [az]; exact G)]
  ·rw [aq (fun e=>c e.symm),aq (fun e=>hi e.symm)];exact W _ _ (up _ _ c ho) hN
 ·rw [az,az]; omega
 ·intro w;have a0:P.set lp (.loop 522 .busy none [(2,.ptr (some (vc,0)))])=J:=rfl;have g2:∀ o,((P2.set vc o))[lp]? = some (.loop 522 .busy none [(2,.ptr (some (vc,0)))]):=fun o=>by rw [aq (by omega)]; exact D
  have hn:=f4 lp;unfold keyC at X;rw [j] at X;simp (disch:=omega) [-getElem?_pos,-getElem?_neg,-List.all_eq_true,qZ,qS,nltT,nltF,iltT,iltF,ileT,nleT,di,xRoundK t522 rfl,round522,rcode522a,rcode522b,nd,mg,roundOut,setArgs,ofCaps,-d7,d,a0,y,j,X,g2,C]
def SelK (ix:List Ent) (A:List Bs) (seen:List Nat):Prop:=A.Nodup∧∀ k,k ∈ A ↔ ∃ e ∈ ix,e.2.2 ∈ seen∧e.1=k
def KeyJ (H1:List AObj) (m0 clock it lp vc b w0:Nat) (ix:List Ent) (m:Nat) (st:St):Prop:=∃ seen A P x w',m=(ix.filter fun e=>!seen.contains e.2.2).length∧(∀ (i:Nat) (o:AObj),H1[i]? = some o→i≠vc→P[i]? = some o)∧P[it]? = some (.mapIter (some m0) clock seen clock)∧P[vc]? = some (.cells 1 [x])∧FRow it 1 keyC A P x∧SelK ix A seen∧it+1≤P.length∧min w0 vc≤w'∧(w'≤vc∨A=[]) ∧
  st=⟨[(0,.val (.yield lp)),(5,.val (.ptr (some (it,0))))],⟨P,b,w'⟩⟩
def KeyN (H1:List AObj) (m0 clock it lp vc b w0:Nat) (ix:List Ent) (m:Nat) (st:St):Prop:=∃ j,j < m∧KeyJ H1 m0 clock it lp vc b w0 ix j st
def KeyE (H1:List AObj) (it vc b w0:Nat) (ix:List Ent) (e:AExit) (st:St):Prop :=
 e = .exit 0∧∃ A P x w',(∀ (i:Nat) (o:AObj),H1[i]? = some o→i≠vc→P[i]? = some o)∧P[vc]? = some (.cells 1 [x])∧FRow it 1 keyC A P x∧A.Nodup∧(∀ k,k ∈ A ↔ ∃ e ∈ ix,e.1=k)∧it+1≤P.length∧min w0 vc≤w'∧(w'≤vc∨A=[])∧st=⟨[],⟨P,b,w'⟩⟩
variable {I:SI} {K:StU}
theorem sel_add {ix:List Ent} {clock:Nat} (hx:IxOK ix clock) {A:List Bs} {seen:List Nat} (h:SelK ix A seen) {D:Ent} (h0:D ∈ ix) (G:D.2.2 ∉ seen):SelK ix (A++[D.1]) (seen++[D.2.2]):=by
 refine ⟨?_,fun k=>?_⟩
 ·rw [z7];refine ⟨h.1,by simp,fun a ha y Q=>?_⟩;rw [bk] at Q;subst Q;obtain ⟨e,h1,h2,C⟩:=(h.2 a).1 ha;intro V;obtain ⟨J,j⟩:=ga.1 h1;obtain ⟨O,d⟩:=ga.1 h0;have:=od hx.k j d (C.trans V);subst this;rw [j] at d;cases d;exact G h2
 ·rw [bz,bk,h.2 k];constructor
  ·rintro (⟨e,h1,h2,C⟩ | rfl)
   ·exact ⟨e,h1,dr _ h2,C⟩
   ·exact ⟨D,h0,by simp,rfl⟩
  ·rintro ⟨e,h1,h2,C⟩;rcases bz.1 h2 with h2 | h2
   ·exact .inl ⟨e,h1,h2,C⟩
   ·rw [bk] at h2;right;obtain ⟨J,j⟩:=ga.1 h1;obtain ⟨O,d⟩:=ga.1 h0
    have W:J=O:=by
     have U:(ix.map (·.2.2))[J]? = some e.2.2:=by rw [bp,j]; rfl
     have X:(ix.map (·.2.2))[O]? = some e.2.2:=by rw [bp,d,h2]; rfl
     exact (List.getElem?_inj (ah U) hx.t).1 (U.trans X.symm)
    subst W;rw [j] at d;cases d;exact C.symm
section
attribute [-simp] getElem?_pos getElem?_neg List.all_eq_true
attribute [local simp] qZ qS nltT nltF iltT iltF ileT nleT di
theorem key_loop {H1:List AObj} {m it lp vc w0 clock:Nat} {ix:List Ent} (hI:H1[m]? = some (.map (ix.map entV) clock)) (hx:IxOK ix clock) (ci:ix.length≤1000) (Q:it=H1.length) (U:H1[lp]? = some (lpO vc)) (O:H1[vc]? = some (.cells 1 [.slice none 0 (some 0)])) (hv:vc < lp) (hb:b≤vc) :
  Wp T (.loop code507L0) ⟨[(0,.val (.yield lp)),(5,.val (.ptr (some (it,0))))],⟨H1++[.mapIter (some m) clock [] clock],b,w0⟩⟩ (KeyE H1 it vc b w0 ix):=by
 have c4:=ah U;refine Wp_loop (KeyJ H1 m clock it lp vc b w0 ix) (fun m1 st hJ=>?_) _ _ ⟨[],[],_,_,w0,rfl,fun k o j _=>by rw [ag (ah j)]; exact j,by rw [Q]; exact gc _ _,by rw [ag (ah O)]; exact O,.inl ⟨rfl,rfl⟩,⟨by simp,fun k=>by simp⟩,by simp [Q],cr _ _,.inr rfl,rfl⟩;obtain ⟨seen,A,P,x,w1,rfl,s1,V,s3,s4,s5,s6,s7,s8,rfl⟩:=hJ;have cp:m < it:=by have:=ah hI; omega
 have ax:m≠vc:=fun e=>by rw [e,O] at hI; cases hI
 have W:P[m]? = some (.map (ix.map entV) clock):=s1 _ _ hI ax;have X:P[lp]? = some (lpO vc):=s1 _ _ U (by omega);have c5:=ah V;unfold code507L0;refine zae ?_;refine na (ul (na ?_));refine zaf (m:=m) (i:=it) (since:=clock) (last:=clock) (clock:=clock) (seen:=seen) (es:=ix.map entV) (by simp) (by show b≤_; omega) V W (fun e he=>?_) (aj _) (fun a0=>?_) (fun e he a6=>?_)
 ·obtain ⟨d,h0,rfl⟩:=bt.1 he;exact hx.c d h0
 ·have ay:∀ k,k ∈ A ↔ ∃ e ∈ ix,e.1=k:=fun k=>by
   rw [s5.2 k];constructor
   ·rintro ⟨e,h1,-,h3⟩; exact ⟨e,h1,h3⟩
   ·rintro ⟨e,h1,h3⟩; exact ⟨e,h1,a0 _ (bt.2 ⟨e,h1,rfl⟩),h3⟩
  have C:KeyE H1 it vc b w0 ix (.exit 0) ⟨[],⟨P.set it .dead,b,min w1 it⟩⟩:=⟨rfl,A,P.set it .dead,x,min w1 it,fun k o j J=>by
   rw [aq (by have:=ah j; omega)]; exact s1 _ _ j J,by rw [aq (by omega)]; exact s3,s4.monoE fun k o j ho=>by
   rw [aq (fun e=>by rw [← e,V] at ho; cases ho)]; exact ho,s5.1,ay,by rw [az]; exact s6,by omega,s8.imp (fun h=>by omega) id,rfl⟩
  refine Wp_x rfl ?_;simp (disch:=omega) [];refine Wp_x rfl ?_;simp (disch:=omega) [C]
 ·obtain ⟨d,h0,rfl⟩:=bt.1 he;have aa:d.2.2 ∉ seen:=a6;have b5:=vt hx.t h0
  have cv:A.length≤ix.length:=by
   have:=oa (l':=ix.map (·.1)) s5.1 fun k j=>by obtain ⟨e,h1,-,h4⟩:=(s5.2 k).1 j;exact bt.2 ⟨e,h1,h4⟩
   rwa [a7] at this
  let D:=P.set it (.mapIter (some m) clock (seen++[d.2.2]) clock)
  have ac:D.length=P.length:=az;have g1:∀ k o,k≠it→P[k]? = some o→D[k]? = some o:=fun k o j ho=>by show (P.set _ _)[k]? = _; rw [aq (fun e=>j e.symm)]; exact ho
  have g2:D[it]? = some (.mapIter (some m) clock (seen++[d.2.2]) clock):=ke V;have ad:D[m]? = some (.map (ix.map entV) clock):=g1 _ _ (by omega) W;have G:D[lp]? = some (lpO vc):=g1 _ _ (by omega) X;have al:D[vc]? = some (.cells 1 [x]):=g1 _ _ (by omega) s3;have b6:FRow it 1 keyC A D x:=s4.monoE fun k o j ho=>g1 _ _ (fun e=>by rw [e,V] at ho; cases ho) ho
  have b7:(ix.filter fun e=>!(seen++[d.2.2]).contains e.2.2).length < (ix.filter fun e=>!seen.contains e.2.2).length:=filt_lt (fun y _ hy=>by simp only [ep,sy,bz,bk,decide_eq_false_iff_not,not_or] at hy ⊢;exact hy.1) ⟨d,h0,by simpa using aa,by simp⟩
  have an:∀ w,ct .entry [.ptr (some (it,0))] ⟨D,b,w⟩=some (.tuple [.str d.1,d.2.1.val],⟨D,b,w⟩):=fun w=>by simp only [ct,Heap.get,g2,ad,List.getLast?_append,List.getLast?_singleton,Option.some_or,if_true,b5,b8]; rfl
  obtain ⟨P2,x2,f1,f2,f3,f4,f5,f6⟩:=y522 (b:=b) (N:=it) d.1 G al hv (by omega) (by omega) hb b6 (by omega)
  have C:∀ w',min w0 vc≤w'→w'≤vc→KeyN H1 m clock it lp vc b w0 ix (ix.filter fun e=>!seen.contains e.2.2).length ⟨[(0,.val (.yield lp)),(5,.val (.ptr (some (it,0))))],⟨P2,b,w'⟩⟩:=fun w' bb bm =>
   ⟨_,b7,seen++[d.2.2],A++[d.1],P2,x2,w',rfl,fun k o j J=>f4 _ _ (g1 _ _ (by have:=ah j; omega) (s1 _ _ j J)) J fun hh=>by have:=ah j; omega,f4 _ _ g2 (by omega) (fun hh cs e=>by cases e),f2,f3,sel_add hx s5 h0 aa,by omega,bb,.inl bm,rfl⟩
  have C:=C (min w1 vc) (by omega) (by omega);unfold PlU.val at an;refine Wp_x rfl ?_;simp (disch:=omega) [];refine Wp_x rfl ?_;have ao:P.set it (.mapIter (some m) clock (seen++[d.2.2]) clock)=D:=rfl;have cx:(entV d).1 = .str d.1:=rfl;have bx:(entV d).2.2=d.2.2:=rfl;rw [bx,ao];generalize D=D at *;have cy:∀ w,(⟨D,b,w⟩:Heap).get lp=some (lpO vc):=fun w=>G
  simp (disch:=omega) [-ct,an,f6,ac,G];unfold KeyN at C;simpa using C
end
end
end Go.Abs.AbsBlo

namespace Go.Abs.AbsBlo
open Go.Abs.AbsBlb hiding T
open Go.Abs.Short
section
variable {H P:List AObj} {b w:Nat}
theorem xj {A:List Bs} {q n w':Nat} {c:Option Nat} (j:P[q]? = some (strsO A)) (y:H.length≤q) (hw:H.length≤w'):dj ⟨H,b,w⟩ (.slice (some (q,0)) n c) ⟨P,b,w'⟩=(.slice (some (H.length,0)) n c,⟨H++[strsO A],b,w⟩):=by
 have h1:¬ w' < H.length:=by omega
 have h2:¬ q < H.length:=by omega
 have d:AVal.idsL (A.map AVal.str)=[]:=idsL_none fun v hv=>by obtain ⟨z,-,rfl⟩:=bt.1 hv;simp [AVal.ids]
 have e:∀ g,AVal.renL g (A.map AVal.str)=A.map AVal.str:=fun g=>AbsBlb.renL_none fun x hx=>by obtain ⟨k,-,rfl⟩:=bt.1 hx; simp [AVal.ren]
 unfold strsO at j ⊢;generalize A.map AVal.str=Y at *;simp (disch:=omega) [dj,Heap.size,h1,h2,AVal.under,AVal.ids,jz,j9,wj,j,d,e,AVal.ren,AObj.ren,AObj.ids,idxIn]
def KeysQ (keys:List Bs) (H:List AObj) (b w:Nat) (v:AVal) (h':Heap):Prop:=∃ L,L.Perm keys ∧
 ((L=[]∧v = .slice none 0 (some 0)∧h'=⟨H,b,w⟩)∨(L≠[]∧v = .slice (some (H.length,0)) L.length none∧h'=⟨H++[strsO L],b,w⟩))
variable {E:Env}
theorem d507 (Q:AgreesX E T) (hm:E.P.follows .mixedOrders=true) (hF:IsCode E 507 code507) {H1:List AObj} {q m lp vc clock:Nat} {ix:List Ent} (y:H1[q]? = some (.cells 1 [.map (some m)])) (U:H1[m]? = some (.map (ix.map entV) clock)) (hx:IxOK ix clock) (C:ix.length≤1000) (D:H1[lp]? = some (lpO vc)) (d:H1[vc]? = some (.cells 1 [.slice none 0 (some 0)])) (hv:vc < lp) (hb:b≤vc) (w:Nat) :
  CallD E 507 [.yield lp,.ptr (some (q,0))] ⟨H1,b,w⟩ fun v h'=>v = .tuple []∧∃ A P x w',h'=⟨P,b,w'⟩∧(∀ (i:Nat) (o:AObj),H1[i]? = some o→i≠vc→P[i]? = some o)∧P[vc]? = some (.cells 1 [x])∧FRow H1.length 1 keyC A P x∧A.Nodup∧(∀ k,k ∈ A ↔ ∃ e ∈ ix,e.1=k)∧min w vc≤w':=by
 have a0:=ah d;refine CallD.of_code hF rfl ?_;have j:code507.body = .seq (R [0,5] [o 4 (.load none (t 1)),o 5 (.ext .mkiter [t 4])]) (.after (.block 0 (.loop code507L0)) []):=rfl;rw [j];have G:enter 0 [AVal.yield lp,.ptr (some (q,0))]=[(0,.val (.yield lp)),(1,.val (.ptr (some (q,0))))]:=rfl;have J:(⟨H1,b,w⟩:Heap).size=H1.length:=rfl;rw [G];simp only [J]
 refine CodeD.seq nofun (CodeD.run Q hm (e:=.normal) (st':=⟨[(0,.val (.yield lp)),(5,.val (.ptr (some (H1.length,0))))],⟨H1++[.mapIter (some m) clock [] clock],b,H1.length⟩⟩) (fun k'=>by generalize ix.map entV=es at *;simp (disch:=omega) [-getElem?_pos,-getElem?_neg,-List.all_eq_true,qZ,qS,nltT,nltF,iltT,iltF,ileT,nleT,di,y,U,ct]) ?_)
 refine CodeD.after (CodeD.block ((CodeD.of_wpX Q hm (key_loop (w0:=H1.length) U hx C rfl D d hv hb)).mono fun e st y _=>?_));obtain ⟨rfl,A,P,x,w',p1,p2,p3,V,W,p6,p7,X,rfl⟩:=y;simp only [xy,if_true];have O:keepK [] ([]:Slots)=[]:=rfl;rw [O];by_cases hw:w' < H1.length
 ·refine ⟨.tuple [],⟨P,b,min w w'⟩,by simp [funcEnd,code507,resultsL,tupled,dj,Heap.size,hw],rfl,A,P,x,min w w',rfl,p1,p2,p3,V,W,by omega⟩
 ·rcases X with X | rfl
  ·omega
  ·refine ⟨.tuple [],⟨H1,b,w⟩,by simp [funcEnd,code507,resultsL,tupled,dj,Heap.size,hw,AVal.under,AVal.unders],rfl,[],H1,.slice none 0 (some 0),w,rfl,fun i o ho _=>ho,d,.inl ⟨rfl,rfl⟩,V,W,cr _ _⟩
end
end Go.Abs.AbsBlo

namespace Go.Abs.AbsBlo
open Go.Abs.AbsBlb hiding T
open Go.Abs.Short
section
variable {H P:List AObj} {b w:Nat} {E:Env}
theorem sr {w':Nat} (hw:H.length≤w'):dj ⟨H,b,w⟩ (.slice none 0 (some 0)) ⟨P,b,w'⟩=(.slice none 0 (some 0),⟨H,b,w⟩):=by
 have h1:¬ w' < H.length:=by omega
 simp [dj,Heap.size,h1,AVal.under]
theorem perm_keys {ix:List Ent} {clock:Nat} (hx:IxOK ix clock) {A:List Bs} (h1:A.Nodup) (h2:∀ k,k ∈ A ↔ ∃ e ∈ ix,e.1=k):A.Perm (ix.map (·.1)) :=
 (List.perm_ext_iff_of_nodup h1 hx.k).2 fun k=>by rw [h2 k,bt]
section
attribute [-simp] getElem?_pos getElem?_neg List.all_eq_true
attribute [local simp] qZ qS nltT nltF iltT iltF ileT nleT di
theorem d512 (D:AgreesX E T) (hm:E.P.follows .mixedOrders=true) (hF:IsCode E 507 code507) (V:IsCode E 512 code512) {q m clock:Nat} {ix:List Ent} (U:H[q]? = some (.cells 1 [.map (some m)])) (hI:H[m]? = some (.map (ix.map entV) clock)) (hx:IxOK ix clock) (W:ix.length≤1000) (hb:b≤H.length) (w:Nat) :
  CallD E 512 [.slice none 0 (some 0),.func 507 [] [.ptr (some (q,0))]] ⟨H,b,w⟩ (KeysQ (ix.map (·.1)) H b w):=by
 have X:=ah U;have a0:=ah hI;refine CallD.of_code V rfl ?_
 have j:code512.body = .seq (R [1,2] [o 2 (.box (t 0)),o 4 (.val (.const (.slice none 0 (some 0))))])
  (.seq (.seq (R [2,6] [v 6 1])
  (.after (.block 0 (.after (.rangeFunc (t 6) 522 [2] [7] rcode522a rcode522b) [2])) [2]))
  (.seq (R [4] [o 12 (.load none (t 2)),v 4 12])
  (.live [4] (.ret)))):=rfl
 rw [j];have a6:enter 0 [AVal.slice none 0 (some 0),.func 507 [] [.ptr (some (q,0))]]=[(0,.val (.slice none 0 (some 0))),(1,.val (.func 507 [] [.ptr (some (q,0))]))]:=rfl;have aa:(⟨H,b,w⟩:Heap).size=H.length:=rfl;rw [a6];simp only [aa];refine CodeD.seq nofun (CodeD.run D hm (e:=.normal) (st':=⟨[(1,.val (.func 507 [] [.ptr (some (q,0))])),(2,.val (.ptr (some (H.length,0))))],⟨H++[.cells 1 [.slice none 0 (some 0)]],b,H.length⟩⟩) (fun k'=>by simp (disch:=omega) []) ?_);refine CodeD.seq nofun (CodeD.seq nofun (CodeD.run D hm (e:=.normal) (st':=⟨[(2,.val (.ptr (some (H.length,0)))),(6,.val (.func 507 [] [.ptr (some (q,0))]))],⟨H++[.cells 1 [.slice none 0 (some 0)]],b,H.length⟩⟩) (fun k'=>by simp (disch:=omega) []) ?_));have ac:(H++[AObj.cells 1 [.slice none 0 (some 0)]]).length=H.length+1:=by simp
 obtain ⟨T',hs,hA⟩:=id D;have ad:=gc H [AObj.cells 1 [.slice none 0 (some 0)],lpO H.length];have G:=jv H [AObj.cells 1 [.slice none 0 (some 0)],lpO H.length] 1;have y:=d507 (b:=b) D hm hF (H1:=H++[AObj.cells 1 [.slice none 0 (some 0)],lpO H.length]) (q:=q) (lp:=H.length+1) (vc:=H.length) (by rw [ag X]; exact U) (by rw [ag a0]; exact hI) hx W G ad (ur _) hb H.length;refine CodeD.after (CodeD.block (CodeD.after (CodeD.rangeFunc (sl:=[(2,.ptr (some (H.length,0)))]) hA.gid rfl rfl ?_)))
 have C:(Heap.push ⟨H++[AObj.cells 1 [.slice none 0 (some 0)]],b,H.length⟩ (.loop 522 .ready none [(2,.ptr (some (H.length,0)))]))=⟨H++[AObj.cells 1 [.slice none 0 (some 0)],lpO H.length],b,H.length⟩:=by simp [Heap.push]
 have J:(⟨H++[AObj.cells 1 [.slice none 0 (some 0)]],b,H.length⟩:Heap).size=H.length+1:=ac;rw [C,J];refine y.mono fun vv hh U=>?_
 obtain ⟨-,A,P,x,w',rfl,p1,p2,p3,p4,p5,p6⟩:=U;have O:=p1 _ _ G (by omega);have b6:=ah O;have hN:(H++[AObj.cells 1 [.slice none 0 (some 0)],lpO H.length]).length=H.length+2:=by simp
 rw [hN] at p3
 refine ⟨.normal,⟨[(2,.val (.ptr (some (H.length,0)))),(6,.val (.func 507 [] [.ptr (some (q,0))]))],⟨P.set (H.length+1) .dead,b,min w' (H.length+1)⟩⟩,by
  have b7:b≤H.length+1:=by omega
  simp [loopEnd,Heap.get,O,Heap.put],?_⟩
 have al:keepK [2] [(2,Slot.val (AVal.ptr (some (H.length,0)))),(6,.val (.func 507 [] [.ptr (some (q,0))]))]=[(2,.val (.ptr (some (H.length,0))))]:=by simp
 have an:keepK [2] [(2,Slot.val (AVal.ptr (some (H.length,0))))]=[(2,.val (.ptr (some (H.length,0))))]:=by simp
 simp only [al,an,blkE];have ao:(P.set (H.length+1) .dead)[H.length]? = some (.cells 1 [x]):=by rw [aq (by omega)]; exact p2
 have ax:∃ a n c,x = .slice a n c:=by
  rcases p3 with ⟨-,h⟩ | ⟨-,q,-,h,-⟩
  ·exact ⟨_,_,_,h⟩
  ·exact ⟨_,_,_,h⟩
 obtain ⟨xa,xn,xc,rfl⟩:=ax;refine CodeD.run D hm (e:=.ret) (st':=⟨[(4,.val (.slice xa xn xc))],⟨P.set (H.length+1) .dead,b,min w' (H.length+1)⟩⟩) (fun k'=>by simp (disch:=omega) [ao]) ?_;have hw:H.length≤min w' (H.length+1):=by omega
 have ay:funcEnd code512 ⟨H,b,w⟩ (.ret,⟨[(4,.val (.slice xa xn xc))],⟨P.set (H.length+1) .dead,b,min w' (H.length+1)⟩⟩)=some (dj ⟨H,b,w⟩ (.slice xa xn xc) ⟨P.set (H.length+1) .dead,b,min w' (H.length+1)⟩):=by simp [-dj,funcEnd,code512,resultsL,result1,sget,tupled]
 rw [ay];have d:=perm_keys hx p4 p5;rcases p3 with ⟨rfl,h⟩ | ⟨b5,q',bb,h,Q⟩
 ·rw [h];rw [sr hw];exact ⟨_,_,rfl,[],d,.inl ⟨rfl,rfl,rfl⟩⟩
 ·rw [h];rw [xj (A:=A) (q:=q') (by rw [aq (by omega)]; unfold strsO; rw [← xp]; exact Q) (by omega) hw];exact ⟨_,_,rfl,A,d,.inr ⟨b5,rfl,rfl⟩⟩
theorem d506 (j:AgreesX E T) (hm:E.P.follows .mixedOrders=true) (hF:IsCode E 507 code507) (y:IsCode E 512 code512) (C:IsCode E 506 code506) {q m clock:Nat} {ix:List Ent} (hq:H[q]? = some (.cells 1 [.map (some m)])) (hI:H[m]? = some (.map (ix.map entV) clock)) (hx:IxOK ix clock) (D:ix.length≤1000) (hb:b≤H.length) (w:Nat) :
  CallD E 506 [.func 507 [] [.ptr (some (q,0))]] ⟨H,b,w⟩ (KeysQ (ix.map (·.1)) H b w):=by
 refine CallD.of_code C rfl ?_
 have d:code506.body = .seq (R [0] [o 2 (.val (.const (.slice none 0 (some 0))))])
  (.seq (R [2] [v 3 0,o 4 (.callg 512 [.const (.slice none 0 (some 0)),t 3]),v 2 4])
  (.live [2] (.ret))):=rfl
 rw [d];have G:enter 0 [AVal.func 507 [] [.ptr (some (q,0))]]=[(0,.val (.func 507 [] [.ptr (some (q,0))]))]:=rfl;have J:(⟨H,b,w⟩:Heap).size=H.length:=rfl;rw [G];simp only [J];refine CodeD.seq nofun (CodeD.run j hm (e:=.normal) (st':=⟨[(0,.val (.func 507 [] [.ptr (some (q,0))]))],⟨H,b,H.length⟩⟩) (fun k'=>by simp (disch:=omega) []) ?_);refine CodeD.seq nofun (CodeD.after (CodeD.regionX j hm ?_));refine OpsD.run (l:=[v 3 0]) (r:=[o 4 (.callg 512 [.const (.slice none 0 (some 0)),t 3]),v 2 4]) (s1:=[(3,.val (.func 507 [] [.ptr (some (q,0))])),(0,.val (.func 507 [] [.ptr (some (q,0))]))]) (h1:=⟨H,b,H.length⟩) (fun k'=>by simp (disch:=omega) []) ?_;refine OpsD.call (g:=512) (xs:=[.const (.slice none 0 (some 0)),t 3]) rfl rfl rfl (d512 j hm hF y hq hI hx D hb H.length) fun vv hh O=>?_
 obtain ⟨L,X,hc⟩:=O
 have Q:∃ a n c,vv = .slice a n c:=by rcases hc with ⟨-,h,-⟩ | ⟨-,h,-⟩ <;> exact ⟨_,_,_,h⟩
 obtain ⟨xa,xn,xc,rfl⟩:=Q
 have U:∃ M,hh=⟨M,b,H.length⟩∧H.length≤M.length:=by
  rcases hc with ⟨-,-,h⟩ | ⟨-,-,h⟩
  ·exact ⟨_,h,aj _⟩
  ·exact ⟨_,h,by simp⟩
 obtain ⟨M,rfl,hM⟩:=U;refine OpsD.run (l:=[v 2 4]) (r:=[]) (s1:=[(2,.val (.slice xa xn xc)),(4,.val (.slice xa xn xc)),(3,.val (.func 507 [] [.ptr (some (q,0))])),(0,.val (.func 507 [] [.ptr (some (q,0))]))]) (h1:=⟨M,b,H.length⟩) (fun k'=>by simp (disch:=omega) []) (OpsD.done ?_);refine CodeD.run j hm (e:=.ret) (st':=⟨[(2,.val (.slice xa xn xc))],⟨M,b,H.length⟩⟩) (fun k'=>by simp (disch:=omega) []) ?_
 have V:funcEnd code506 ⟨H,b,w⟩ (.ret,⟨[(2,.val (.slice xa xn xc))],⟨M,b,H.length⟩⟩)=some (dj ⟨H,b,w⟩ (.slice xa xn xc) ⟨M,b,H.length⟩):=by simp [-dj,funcEnd,code506,resultsL,result1,sget,tupled]
 rw [V];rcases hc with ⟨rfl,h,h2⟩ | ⟨W,h,h2⟩
 ·rw [h];rw [sr (aj _)];exact ⟨_,_,rfl,[],X,.inl ⟨rfl,rfl,rfl⟩⟩
 ·cases h2;rw [h,xj (A:=L) (gc _ _) (aj _) (aj _)];exact ⟨_,_,rfl,L,X,.inr ⟨W,rfl,rfl⟩⟩
end
end
end Go.Abs.AbsBlo

namespace Go.Abs.AbsBlo
open Go.Abs.AbsBlb hiding T
open Go.Abs.Short
def begP (p k:Bs):Bool:=decide (p.length≤k.length) && decide (k.take p.length=p)
section
variable {H P:List AObj} {b w:Nat}
section
attribute [-simp] getElem?_pos getElem?_neg List.all_eq_true
attribute [local simp] qZ qS nltT nltF iltT iltF ileT nleT di
theorem s140k {p k:Bs}:xCall T 140 [.str k,.str p] ⟨P,b,w⟩=some (.bool (begP p k),⟨P,b,w⟩):=by
 unfold begP;by_cases c:p.length≤k.length
 ·have c':(p.length:Int)≤k.length:=by omega
  by_cases d:k.take p.length=p
  ·simp (disch:=omega) [bg t140,code140,c,c',d]
  ·simp (disch:=omega) [bg t140,code140,c,c',d]
 ·have c':¬ (p.length:Int)≤k.length:=by omega
  simp (disch:=omega) [bg t140,code140,c,c']
theorem s88k {p k:Bs}:xCall T 88 [.str k,.str p] ⟨P,b,w⟩=some (.bool (begP p k),⟨P,b,w⟩):=by
 have h:=fun w=>s140k (P:=P) (b:=b) (w:=w) (p:=p) (k:=k)
 simp (disch:=omega) [bg t88,code88,h]
theorem s494k {p k:Bs} {cb:Nat} (hc:P[cb]? = some (.cells 1 [.str p])):xCall T 494 [.str k,.ptr (some (cb,0))] ⟨P,b,w⟩=some (.bool (!begP p k),⟨P,b,w⟩):=by
 have h:=fun w=>s88k (P:=P) (b:=b) (w:=w) (p:=p) (k:=k)
 simp (disch:=omega) [bg t494,code494,h,hc]
end
theorem rep_str (n:Nat):rep n [AVal.str []]=(List.replicate n ([]:Bs)).map AVal.str:=by
 unfold rep;induction n with
 | zero=>rfl
 | succ n ih=>rw [vi,ou,ih,vi]; rfl
section
attribute [-simp] getElem?_pos getElem?_neg List.all_eq_true
attribute [local simp] qZ qS nltT nltF iltT iltF ileT nleT di
theorem s495 {q n cb:Nat} {p:Bs→Bool} (J:b≤q) (e:q < H.length) {L:List Bs} (O:L.length=n) (hn:n≤1000000) (hq:H[q]? = some (strsO L)) (hg:∀ (R:List Bs) (x:Bs) (w:Nat),xCall T 494 [.str x,.ptr (some (cb,0))] ⟨H.set q (strsO R),b,w⟩=some (.bool (p x),⟨H.set q (strsO R),b,w⟩)) :
  ∃ Q m,∃ U:Nat→Nat,Q.length=n∧m≤n∧Q.take m=L.filter (kp p)∧(∀ w,min w q≤U w∧U w≤w)∧∀ w,xCall T 495 [.slice (some (q,0)) n none,.func 494 [] [.ptr (some (cb,0))]] ⟨H,b,w⟩=some (.slice (some (q,0)) m none,⟨H.set q (strsO Q),b,U w⟩):=by
 have hs:H.set q (strsO L)=H:=np hq;have C:=hg L;rw [hs] at C;rcases s142k (c:=none) O hn hq C with ⟨h1,h2⟩ | ⟨j,h1,h2,h3⟩
 ·refine ⟨L,n,fun w=>w,O,aj _,by rw [h1,dg (by omega)],fun w=>⟨cr _ _,aj _⟩,fun w=>?_⟩;rw [hs];simp (disch:=omega) [bg t495,code495,h2]
 ·obtain ⟨y,d,w1,r1,r2,r3,r4,r5,G⟩:=l495 (c:=none) J e hn hg (n - (j+1)) (j+1) j L H.length (by omega) (ur _) O;rw [hs] at G
  have al:d < n:=by have e1:=congrArg List.length r3;have e2:=List.length_filter_le (kp p) (L.drop (j+1));rw [db,au,db] at e1;rw [gh] at e2;omega
  have ej:((j+1:Nat):Int)=(j:Int)+1:=by omega
  rw [ej] at G;refine ⟨y.take d++List.replicate (n - d) [],d,fun w=>min w q,by rw [au,db,bq]; omega,by omega,?_,fun w=>⟨aj _,cr _ _⟩,fun w=>?_⟩
  ·rw [List.take_append_of_le_length (by rw [db]; omega),List.take_take,Nat.min_self,r3,← h2]
  ·have D:strsO (y.take d++List.replicate (n - d) []) = .cells 1 (splice (y.map AVal.str) d (rep (n - d) [.str []])):=by unfold strsO splice;rw [rep_str,a7,bq,dk (by rw [a7]; omega),gt,ku,List.map_take]
   rw [D];have V:strsO y = .cells 1 (y.map AVal.str):=rfl;rw [V] at G;have W:(y.map AVal.str).length=n:=by rw [a7]; exact r1
   have X:∀ o,(H.set q o)[q]? = some o:=fun o=>bj e
   have a0:∀ o o',(H.set q o).set q o'=H.set q o':=fun o o'=>List.set_set ..
   generalize y.map AVal.str=Y at *;have a6:¬ n - d=0:=by omega
   have aa:(d:Int)≤n:=by omega
   have ac:d+(n - d)≤n:=by omega
   have ad:min w1 q=q:=by omega
   simp (disch:=omega) [-splice,bg t495,code495,h3,G,X,a0,W,a6,aa,ac,ad,e]
end
end
end Go.Abs.AbsBlo

namespace Go.Abs.AbsBlo
open Go.Abs.AbsBlb hiding T
open Go.Abs.Short
def KeysS (keys:List Bs) (H:List AObj) (b w:Nat) (v:AVal) (h':Heap):Prop:=∃ L,(L.Perm keys∧L.Pairwise fun x y=>leB x y=true) ∧
 ((L=[]∧v = .slice none 0 (some 0)∧h'=⟨H,b,w⟩)∨(L≠[]∧v = .slice (some (H.length,0)) L.length none∧h'=⟨H++[strsO L],b,w⟩))
structure CodesK (E:Env):Prop where
 t:AgreesX E T
 m:E.P.follows .mixedOrders=true
 a507:IsCode E 507 code507
 a512:IsCode E 512 code512
 a506:IsCode E 506 code506
 a497:IsCode E 497 code497
 a480:IsCode E 480 code480
section
variable {H P:List AObj} {b w:Nat} {E:Env}
section
attribute [-simp] getElem?_pos getElem?_neg List.all_eq_true
attribute [local simp] qZ qS nltT nltF iltT iltF ileT nleT di
theorem d497 (j:CodesK E) {q m clock:Nat} {ix:List Ent} (hq:H[q]? = some (.cells 1 [.map (some m)])) (hI:H[m]? = some (.map (ix.map entV) clock)) (hx:IxOK ix clock) (O:ix.length≤12) (hb:b≤H.length) (w:Nat) :
  CallD E 497 [.func 507 [] [.ptr (some (q,0))]] ⟨H,b,w⟩ (KeysS (ix.map (·.1)) H b w):=by
 have y:=j.t;have hm:=j.m;refine CallD.of_code j.a497 rfl ?_
 have d:code497.body = .seq (R [0] [o 2 (.val (.const (.slice none 0 (some 0))))])
  (.seq (R [3] [v 4 0,o 5 (.callg 506 [t 4]),v 3 5])
  (.seq (R [3] [v 6 3,o 7 (.callg 505 [t 6])])
  (.seq (R [2] [v 8 3,v 2 8])
  (.live [2] (.ret))))):=rfl
 rw [d];have Q:enter 0 [AVal.func 507 [] [.ptr (some (q,0))]]=[(0,.val (.func 507 [] [.ptr (some (q,0))]))]:=rfl;have U:(⟨H,b,w⟩:Heap).size=H.length:=rfl;rw [Q];simp only [U];refine CodeD.seq nofun (CodeD.run y hm (e:=.normal) (st':=⟨[(0,.val (.func 507 [] [.ptr (some (q,0))]))],⟨H,b,H.length⟩⟩) (fun k'=>by simp (disch:=omega) []) ?_);refine CodeD.seq nofun (CodeD.after (CodeD.regionX y hm ?_));refine OpsD.run (l:=[v 4 0]) (r:=[o 5 (.callg 506 [t 4]),v 3 5]) (s1:=[(4,.val (.func 507 [] [.ptr (some (q,0))])),(0,.val (.func 507 [] [.ptr (some (q,0))]))]) (h1:=⟨H,b,H.length⟩) (fun k'=>by simp (disch:=omega) []) ?_;refine OpsD.call (g:=506) (xs:=[t 4]) rfl rfl rfl (d506 y hm j.a507 j.a512 j.a506 hq hI hx (by omega) hb H.length) fun vv hh V=>?_
 obtain ⟨L,W,hc⟩:=V;have X:L.length≤12:=by rw [W.length_eq,a7]; exact O
 have C:∀ x M w',funcEnd code497 ⟨H,b,w⟩ (.ret,⟨[(2,.val x)],⟨M,b,w'⟩⟩)=some (dj ⟨H,b,w⟩ x ⟨M,b,w'⟩):=fun x M w'=>by simp [-dj,funcEnd,code497,resultsL,result1,sget,tupled]
 rcases hc with ⟨rfl,rfl,rfl⟩ | ⟨a0,rfl,rfl⟩
 ·refine OpsD.run (l:=[v 3 5]) (r:=[]) (s1:=[(3,.val (.slice none 0 (some 0))),(5,.val (.slice none 0 (some 0))),(4,.val (.func 507 [] [.ptr (some (q,0))])),(0,.val (.func 507 [] [.ptr (some (q,0))]))]) (h1:=⟨H,b,H.length⟩) (fun k'=>by simp (disch:=omega) []) (OpsD.done ?_);have D:=fun w=>s505z (H:=H) (b:=b) (w:=w) (a:=none) (c:=some 0)
  refine CodeD.run y hm (e:=.ret) (st':=⟨[(2,.val (.slice none 0 (some 0)))],⟨H,b,H.length⟩⟩) (fun k'=>by simp (disch:=omega) [D]) ?_;rw [C,sr (aj _)];exact ⟨_,_,rfl,[],⟨W,.nil⟩,.inl ⟨rfl,rfl,rfl⟩⟩
 ·have a6:=gc H [strsO L];obtain ⟨L',nx,⟨J,ps⟩,p2,p3⟩:=s505 (H:=H++[strsO L]) (b:=b) (q:=H.length) (n:=L.length) (c:=none) hb (by simp) X rfl a6;have G:(H++[strsO L]).set H.length (strsO L')=H++[strsO L']:=set_k0 H [strsO L] (strsO L');rw [G] at p3;refine OpsD.run (l:=[v 3 5]) (r:=[]) (s1:=[(3,.val (.slice (some (H.length,0)) L.length none)),(5,.val (.slice (some (H.length,0)) L.length none)),(4,.val (.func 507 [] [.ptr (some (q,0))])),(0,.val (.func 507 [] [.ptr (some (q,0))]))]) (h1:=⟨H++[strsO L],b,H.length⟩) (fun k'=>by simp (disch:=omega) []) (OpsD.done ?_);refine CodeD.run y hm (e:=.ret) (st':=⟨[(2,.val (.slice (some (H.length,0)) L.length none))],⟨H++[strsO L'],b,nx H.length⟩⟩) (fun k'=>by simp (disch:=omega) [p3]) ?_;rw [C,xj (A:=L') (gc _ _) (aj _) (by have:=(p2 H.length).1; omega)];refine ⟨_,_,rfl,L',⟨J.trans W,ps⟩,.inr ⟨fun e=>?_,by rw [J.length_eq],rfl⟩⟩
  rw [e] at J;exact a0 (List.nil_perm.1 J)
end
def KeysP (keys:List Bs) (H:List AObj) (b w:Nat) (v:AVal) (h':Heap):Prop:=∃ kept,(kept.Perm keys∧kept.Pairwise fun x y=>leB x y=true) ∧
 ((kept=[]∧v = .slice none 0 (some 0)∧h'=⟨H,b,w⟩)∨(∃ R,R.take kept.length=kept∧kept.length≤R.length∧v = .slice (some (H.length,0)) kept.length none∧h'=⟨H++[strsO R],b,w⟩))
variable {I:SI} {F:Fl} {K:StU}
section
attribute [-simp] getElem?_pos getElem?_neg List.all_eq_true
attribute [local simp] qZ qS nltT nltF iltT iltF ileT nleT di
theorem d480 (Q:CodesK E) (h:StA H I F K) (hx:IxOK K.ix K.clock) (y:K.ix.length≤12) (hb:b≤H.length) (p:Bs) (w:Nat) :
  CallD E 480 [.ptr (some (I.s,0)),.str p] ⟨H,b,w⟩ (KeysP ((K.ix.map (·.1)).filter (begP p)) H b w):=by
 have C:=Q.t;have hm:=Q.m;have U:=h.s;have gm:H[I.m]? = some (.map (K.ix.map entV) K.clock):=h.m;unfold StU.cells at U;have V:=ah U;have W:=ah gm;refine CallD.of_code Q.a480 rfl ?_
 have j:code480.body = .seq (R [0,3] [o 3 (.box (t 1)),o 4 (.val (.const (.slice none 0 (some 0))))])
  (.seq (.seq (R [0,3,7] [v 6 0,o 7 (.eqnil .ptr false (t 6) (.const (.ptr none)))])
  (.after (.cond (t 7) (.seq (R [4] [o 4 (.val (.const (.slice none 0 (some 0))))])
  (.live [4] (.ret))) (.skip)) [0,3]))
  (.seq (R [3,5] [v 8 0,o 9 (.nilcheck (t 8)),o 10 (.faddr (t 9) 5),o 11 (.load none (t 10)),o 12 (.callg 496 [t 11]),o 13 (.callg 497 [t 12]),v 5 13])
  (.seq (R [4] [v 14 5,o 15 (.mkfunc 494 [] [t 3]),o 16 (.callg 495 [t 14,t 15]),v 4 16])
  (.live [4] (.ret))))):=rfl
 rw [j];have X:enter 0 [AVal.ptr (some (I.s,0)),.str p]=[(0,.val (.ptr (some (I.s,0)))),(1,.val (.str p))]:=rfl;have a0:(⟨H,b,w⟩:Heap).size=H.length:=rfl;rw [X];simp only [a0];refine CodeD.seq nofun (CodeD.run C hm (e:=.normal) (st':=⟨[(0,.val (.ptr (some (I.s,0)))),(3,.val (.ptr (some (H.length,0))))],⟨H++[.cells 1 [.str p]],b,H.length⟩⟩) (fun k'=>by simp (disch:=omega) []) ?_);refine CodeD.seq nofun (CodeD.run C hm (e:=.normal) (st':=⟨[(0,.val (.ptr (some (I.s,0)))),(3,.val (.ptr (some (H.length,0))))],⟨H++[.cells 1 [.str p]],b,H.length⟩⟩) (fun k'=>by simp (disch:=omega) []) ?_);have a6:=(ag (l₂:=[AObj.cells 1 [.str p]]) V).trans U;have d:=fun w=>s496 (H:=H++[.cells 1 [.str p]]) (b:=b) (w:=w) (m:=I.m) (by rw [au]; omega)
 simp only [au,cq,eq,dq,ba,fh,dw] at d;have aa:=jv H [AObj.cells 1 [.str p],.cells 1 [.map (some I.m)]] 1;have ac:=gc H [AObj.cells 1 [.str p],.cells 1 [.map (some I.m)]];have ad:(H++[AObj.cells 1 [.str p],.cells 1 [.map (some I.m)]])[I.m]? = _:=(ag W).trans gm;have D:(H++[AObj.cells 1 [.str p],.cells 1 [.map (some I.m)]]).length=H.length+2:=by simp
 refine CodeD.seq nofun (CodeD.after (CodeD.regionX C hm ?_));refine OpsD.run (l:=[v 8 0,o 9 (.nilcheck (t 8)),o 10 (.faddr (t 9) 5),o 11 (.load none (t 10)),o 12 (.callg 496 [t 11])]) (r:=[o 13 (.callg 497 [t 12]),v 5 13]) (s1:=[(12,.val (.func 507 [] [.ptr (some (H.length+1,0))])),(11,.val (.map (some I.m))),(10,.val (.ptr (some (I.s,5)))),(9,.val (.ptr (some (I.s,0)))),(8,.val (.ptr (some (I.s,0)))),(0,.val (.ptr (some (I.s,0)))),(3,.val (.ptr (some (H.length,0))))]) (h1:=⟨H++[.cells 1 [.str p],.cells 1 [.map (some I.m)]],b,H.length⟩) (fun k'=>by simp (disch:=omega) [a6,d]) ?_;refine OpsD.call (g:=497) (xs:=[t 12]) rfl rfl rfl (d497 Q aa ad hx y (by omega) H.length) fun vv hh al=>?_
 obtain ⟨L,⟨hp,an⟩,hc⟩:=al;have bm:L.length≤12:=by rw [hp.length_eq,a7]; exact y
 have G:∀ x M w',funcEnd code480 ⟨H,b,w⟩ (.ret,⟨[(4,.val x)],⟨M,b,w'⟩⟩)=some (dj ⟨H,b,w⟩ x ⟨M,b,w'⟩):=fun x M w'=>by simp [-dj,funcEnd,code480,resultsL,result1,sget,tupled]
 rcases hc with ⟨rfl,rfl,rfl⟩ | ⟨bx,rfl,rfl⟩
 ·refine OpsD.run (l:=[v 5 13]) (r:=[]) (s1:=[(5,.val (.slice none 0 (some 0))),(13,.val (.slice none 0 (some 0))),(12,.val (.func 507 [] [.ptr (some (H.length+1,0))])),(11,.val (.map (some I.m))),(10,.val (.ptr (some (I.s,5)))),(9,.val (.ptr (some (I.s,0)))),(8,.val (.ptr (some (I.s,0)))),(0,.val (.ptr (some (I.s,0)))),(3,.val (.ptr (some (H.length,0))))]) (h1:=⟨H++[.cells 1 [.str p],.cells 1 [.map (some I.m)]],b,H.length⟩) (fun k'=>by simp (disch:=omega) []) (OpsD.done ?_);have J:=fun P f w=>s495z (H:=P) (b:=b) (w:=w) (c:=some 0) (f:=f)
  refine CodeD.run C hm (e:=.ret) (st':=⟨[(4,.val (.slice none 0 (some 0)))],⟨H++[.cells 1 [.str p],.cells 1 [.map (some I.m)]],b,H.length⟩⟩) (fun k'=>by simp (disch:=omega) [J]) ?_;rw [G,sr (aj _)];have ao:=hp.filter (begP p);exact ⟨_,_,rfl,[],⟨ao,.nil⟩,.inl ⟨rfl,rfl,rfl⟩⟩
 ·have ax:((H++[AObj.cells 1 [.str p],.cells 1 [.map (some I.m)]])++[strsO L])[H.length+2]? = some (strsO L):=by rw [← D]; exact gc _ _
  have b7:((H++[AObj.cells 1 [.str p],.cells 1 [.map (some I.m)]])++[strsO L]).length=H.length+3:=by simp
  have ay:∀ R,(((H++[AObj.cells 1 [.str p],.cells 1 [.map (some I.m)]])++[strsO L]).set (H.length+2) (strsO R))[H.length]? = some (.cells 1 [.str p]):=fun R=>by rw [aq (by omega),ag (by omega)]; exact ac
  rw [D];generalize (H++[AObj.cells 1 [.str p],.cells 1 [.map (some I.m)]])++[strsO L]=M at *;obtain ⟨R,mm,nx,e1,e2,e3,e4,e5⟩:=s495 (H:=M) (b:=b) (q:=H.length+2) (n:=L.length) (cb:=H.length) (p:=fun k=>!begP p k) (by omega) (by omega) rfl (by omega) ax (fun R x w=>s494k (ay R))
  have b5:L.filter (kp fun k=>!begP p k)=L.filter (begP p):=by congr 1;funext x;simp [kp]
  rw [b5] at e3;have O:(L.filter (begP p)).length=mm:=by rw [← e3,db]; omega
  refine OpsD.run (l:=[v 5 13]) (r:=[]) (s1:=[(5,.val (.slice (some (H.length+2,0)) L.length none)),(13,.val (.slice (some (H.length+2,0)) L.length none)),(12,.val (.func 507 [] [.ptr (some (H.length+1,0))])),(11,.val (.map (some I.m))),(10,.val (.ptr (some (I.s,5)))),(9,.val (.ptr (some (I.s,0)))),(8,.val (.ptr (some (I.s,0)))),(0,.val (.ptr (some (I.s,0)))),(3,.val (.ptr (some (H.length,0))))]) (h1:=⟨M,b,H.length⟩) (fun k'=>by simp (disch:=omega) []) (OpsD.done ?_);have c4:=(e4 H.length).1
  refine CodeD.run C hm (e:=.ret) (st':=⟨[(4,.val (.slice (some (H.length+2,0)) mm none))],⟨M.set (H.length+2) (strsO R),b,nx H.length⟩⟩) (fun k'=>by
   have b6:H.length < M.length:=by omega
   have bb:=(e4 H.length).2;simp (disch:=omega) [e5,b6]) ?_
  rw [G,xj (A:=R) (bj (by omega)) (by omega) (by omega)];refine ⟨_,_,rfl,L.filter (begP p),⟨hp.filter _,an.filter _⟩,.inr ⟨R,by rw [O]; exact e3,by omega,by rw [O],rfl⟩⟩
end
end
end Go.Abs.AbsBlo

namespace Go.Abs.AbsBlb
open Go.Abs.Short
def pairC (p:Bs × Bs):List AVal:=[.str p.1,.str p.2]
section
variable {H:List AObj} {b w q:Nat}
section
attribute [-simp] getElem?_pos getElem?_neg List.all_eq_true
attribute [local simp] qZ qS nltT nltF iltT iltF ileT nleT di
theorem s574 {k:Bs} {n:Nat} {c:Option Nat} (d:q < H.length):xCall T 574 [.agg [.bool false,.str k,.slice (some (q,0)) n c]] ⟨H,b,w⟩=some (.agg [.int .i64 1,.int .u32 1,.str k,.slice (some (q,0)) n c,.int .i64 0],⟨H,b,w⟩):=by simp (disch:=omega) [bg t574,code574,d]
theorem s575 {k:Bs} {n:Nat} {c:Option Nat} (e:1≤k.length∧k.length≤64) (j:n≤4096):xCall T 575 [.agg [.int .i64 1,.int .u32 1,.str k,.slice (some (q,0)) n c,.int .i64 0]] ⟨H,b,w⟩=some (.bool true,⟨H,b,w⟩):=by
 have h1:(1:Int)≤k.length:=by omega
 have h2:(k.length:Int)≤64:=by omega
 have d:(n:Int)≤4096:=by omega
 simp (disch:=omega) [bg t575,code575,h1,h2,d]
theorem s576 {k:Bs} {n:Nat} {c:Option Nat} (d:1≤k.length∧k.length≤64) (j:n≤4096):xCall T 576 [.agg [.int .i64 1,.int .u32 1,.str k,.slice (some (q,0)) n c,.int .i64 0]] ⟨H,b,w⟩=some (.int .i64 (16+k.length+n:Nat),⟨H,b,w⟩):=by
 have e:((16+k.length+n:Nat):Int)=11+(k.length:Int)+n+5:=by omega
 rw [e];simp (disch:=omega) [bg t576,code576]
end
variable {p n:Nat} {k:Bs} {c lc:Option Nat}
section
attribute [-simp] getElem?_pos getElem?_neg List.all_eq_true
attribute [local simp] qZ qS nltT nltF iltT iltF ileT nleT di
theorem s552 (y:H[p]? = some (.cells 3 [.bool false,.str k,.slice (some (q,0)) n c])) (C:q < H.length) (D:1≤k.length∧k.length≤64) (G:n≤4096):xCall T 552 [.slice (some (p,0)) 1 lc] ⟨H,b,w⟩=some (.int .i64 (32+k.length+n:Nat),⟨H,b,w⟩):=by
 have d:=fun w=>s574 (b:=b) (w:=w) (k:=k) (n:=n) (c:=c) C
 have j:=fun w=>s576 (H:=H) (b:=b) (w:=w) (q:=q) (c:=c) D G
 have e:((32+k.length+n:Nat):Int)=16+((16+k.length+n:Nat):Int):=by omega
 rw [e];have hb:(16+k.length+n:Nat)≤5000:=by omega
 generalize (16+k.length+n:Nat)=s at *;simp (disch:=omega) [bg t552,code552,b9,code552L0,y,d,j]
theorem s550 (C:H[p]? = some (.cells 3 [.bool false,.str k,.slice (some (q,0)) n c])) (D:q < H.length) (G:1≤k.length∧k.length≤64) (J:n≤4096) {z:Nat} (Q:12≤z∧z≤65536):xCall T 550 [.slice (some (p,0)) 1 lc,.int .i64 z] ⟨H,b,w⟩=some (.int .i64 (if 32+k.length+n≤(z - 12) / 2 then 0 else 9),⟨H,b,w⟩):=by
 have d:=fun w=>s574 (b:=b) (w:=w) (k:=k) (n:=n) (c:=c) D
 have e:=fun w=>s575 (H:=H) (b:=b) (w:=w) (q:=q) (c:=c) G J
 have j:=fun w=>s552 (b:=b) (w:=w) (lc:=lc) C D G J
 have y:((z:Int) - 12).tdiv 2=(((z - 12) / 2:Nat):Int):=by rw [sx (by omega)]; omega
 have hs:32+k.length+n≤5000:=by omega
 have O:(0:Int)≤(((z - 12) / 2:Nat):Int)∧(((z - 12) / 2:Nat):Int)≤65536:=by omega
 generalize 32+k.length+n=s at *;by_cases hc:s≤(z - 12) / 2
 ·rw [if_pos hc];have hi:¬ ((((z - 12) / 2:Nat):Int) < s):=by omega
  generalize (((z - 12) / 2:Nat):Int)=zn at *;simp (disch:=omega) [bg t550,code550,b9,code550L2,code550L1,code550L0,C,d,e,j,y,hi]
 ·rw [if_neg hc];have hi:((((z - 12) / 2:Nat):Int) < s):=by omega
  generalize (((z - 12) / 2:Nat):Int)=zn at *;simp (disch:=omega) [bg t550,code550,b9,code550L2,code550L1,code550L0,C,d,e,j,y,hi]
theorem s553 {z lim:Nat} (J:3≤n∧n≤64) (O:12≤z∧z≤65536):xCall T 553 [.agg [.int .i64 n,.int .i64 z,.int .i64 lim]] ⟨H,b,w⟩=some (.int .i64 ((n - 2)*(z - 12) / 4:Nat),⟨H,b,w⟩):=by
 obtain ⟨m,rfl⟩:∃ m,n=m+2:=⟨n - 2,by omega⟩;obtain ⟨y,rfl⟩:∃ y,z=y+12:=⟨z - 12,by omega⟩;have j:((m+2:Nat):Int) - 2=m:=by omega
 have C:((y+12:Nat):Int) - 12=y:=by omega
 have D:(m:Int)*(y:Int)=((m*y:Nat):Int):=by rw [Int.natCast_mul]
 have G:((m*y:Nat):Int).tdiv 4=((m*y / 4:Nat):Int):=by rw [sx (by omega)]; omega
 have hb:m*y≤62*65536:=Nat.mul_le_mul (by omega) (by omega);rw [Nat.add_sub_cancel,Nat.add_sub_cancel];generalize m*y=s at *;have hm:¬ ((s / 4:Nat):Int) < 0:=by omega
 have d:(0:Int)≤((s / 4:Nat):Int):=by omega
 have e:max ((s / 4:Nat):Int) 0=((s / 4:Nat):Int):=by omega
 simp (disch:=omega) [bg t553,code553,j,C,D,G,hm,d,e]
end
end
section
variable {H:List AObj} {b:Nat} {L:List (Bs × Bs)} {c:Option Nat}
def liveP (l:List (Bs × Bs)):Nat:=(l.map fun p=>32+p.1.length+p.2.length).sum
section
attribute [-simp] getElem?_pos getElem?_neg List.all_eq_true
attribute [local simp] qZ qS nltT nltF iltT iltF ileT nleT di
theorem l551 {a:Option (Nat × Nat)} (C:Row H 2 pairC L a) (O:L.length≤1000) (D:∀ p ∈ L,p.1.length≤64∧p.2.length≤4096):∀ (j i n w:Nat),i+j=L.length→n≤5000*i→∀ {β:Type} (k':AExit→St→Option β),
  xK T (.loop code551L0) ⟨[(3,.val (.int .i64 n)),(6,.val (.slice a L.length c)),(7,.val (.int .i64 L.length)),(8,.val (.int .i64 i))],⟨H,b,w⟩⟩ (k:=⟨k'⟩)=k' (.exit 0) ⟨[(3,.val (.int .i64 (n+liveP (L.drop i):Nat)))],⟨H,b,w⟩⟩
 | 0,i,n,w,hi,hb,β,k'=>by have hd:L.drop i=[]:=dk (by omega);rw [hd,b9];have:liveP []=0:=rfl;simp (disch:=omega) [code551L0,this]
 | j+1,i,n,w,hi,hb,β,k'=>by
  obtain ⟨x,hx⟩:∃ x,L[i]? = some x:=⟨_,ai (by omega)⟩;obtain ⟨bb,o,cs,rfl,e,d⟩:=C.at' (lx hx);obtain ⟨Q,G⟩:=d i x hx;have y:pairC x=[.str x.1,.str x.2]:=rfl;rw [y] at G;obtain ⟨h1,h2⟩:=D x (br hx);have J:=l551 C O D j (i+1) (n+(32+x.1.length+x.2.length)) w (by omega) (by omega) k'
  have U:liveP (L.drop i)=32+x.1.length+x.2.length+liveP (L.drop (i+1)):=by rw [iy hx]; rfl
  have V:((i+1:Nat):Int)=(i:Int)+1:=by omega
  have W:((n+(32+x.1.length+x.2.length):Nat):Int)=(n:Int)+11+x.1.length+x.2.length+5+16:=by omega
  have X:n+(32+x.1.length+x.2.length)+liveP (L.drop (i+1))=n+(32+x.1.length+x.2.length+liveP (L.drop (i+1))):=by omega
  rw [V,W,X] at J;rw [U,b9,← J];generalize ACode.loop code551L0=LL;have a0:n≤5000000:=by omega
  simp (disch:=omega) [code551L0,e,Q,G]
theorem s551 {w:Nat} {a:Option (Nat × Nat)} (d:Row H 2 pairC L a) (e:L.length≤1000) (j:∀ p ∈ L,p.1.length≤64∧p.2.length≤4096):xCall T 551 [.slice a L.length c] ⟨H,b,w⟩=some (.int .i64 (liveP L),⟨H,b,w⟩):=by
 have h1:=fun {β:Type} w (k':AExit→St→Option β)=>l551 (b:=b) (c:=c) d e j L.length 0 0 w (by omega) (by omega) k'
 simp only [ff,dq,bf] at h1;simp (disch:=omega) [bg t551,code551,h1]
end
theorem evEq_pair (x y:Bs):evEq true [.s,.s] (.agg [.str x,.str y]) (.agg [.str x,.str y])=some (.bool false):=by simp [evEq,areKeys,CK.is,akeyL,akey1]
section
attribute [-simp] getElem?_pos getElem?_neg List.all_eq_true
attribute [local simp] qZ qS nltT nltF iltT iltF ileT nleT di
theorem l547 {a Q:Option (Nat × Nat)} {c':Option Nat} (U:Row H 2 pairC L a) (C:Row H 2 pairC L Q) (X:L.length≤1000):∀ (j i w:Nat),i+j=L.length→∀ {β:Type} (k':AExit→St→Option β),
  xK T (.loop code547L0) ⟨[(0,.val (.slice a L.length c)),(1,.val (.slice Q L.length c')),(12,.val (.int .i64 L.length)),(13,.val (.int .i64 i))],⟨H,b,w⟩⟩ (k:=⟨k'⟩)=k' (.exit 0) ⟨[],⟨H,b,w⟩⟩
 | 0,i,w,hi,β,k'=>by
  obtain rfl:i=L.length:=by omega
  rw [b9];simp (disch:=omega) [code547L0]
 | j+1,i,w,hi,β,k'=>by
  obtain ⟨x,hx⟩:∃ x,L[i]? = some x:=⟨_,ai (by omega)⟩;obtain ⟨bb,o,cs,rfl,D,e⟩:=U.at' (lx hx);obtain ⟨a0,o',cs',rfl,y,d⟩:=C.at' (lx hx);obtain ⟨p1,V⟩:=e i x hx;obtain ⟨J,G⟩:=d i x hx;have O:pairC x=[.str x.1,.str x.2]:=rfl;rw [O] at V G;have W:=l547 (c':=c') U C X j (i+1) w (by omega) k';have e2:((i+1:Nat):Int)=(i:Int)+1:=by omega
  rw [e2] at W;rw [b9,← W];generalize ACode.loop code547L0=LL;simp (disch:=omega) [code547L0,D,y,p1,V,J,G,evEq_pair]
theorem s547 {w:Nat} {a e:Option (Nat × Nat)} {c':Option Nat} (j:Row H 2 pairC L a) (d:Row H 2 pairC L e) (y:L.length≤1000):xCall T 547 [.slice a L.length c,.slice e L.length c'] ⟨H,b,w⟩=some (.bool true,⟨H,b,w⟩):=by
 have h1:=fun {β:Type} w (k':AExit→St→Option β)=>l547 (b:=b) (c:=c) (c':=c') j d y L.length 0 w (by omega) k'
 simp only [bf] at h1;simp (disch:=omega) [bg t547,code547,h1]
end
end
end Go.Abs.AbsBlb

namespace Go.Abs.AbsBlb
open Go.Abs.Short
def insP (k v:Bs):Bool→List (Bs × Bs)→List (Bs × Bs)
 | done,[]=>if done then [] else [(k,v)]
 | done,p :: r=>(if !done && aBytesLess k p.1 then [(k,v)] else [])++((if p.1=k then [] else [p])++insP k v (done || aBytesLess k p.1) r)
theorem ins_ne (k v:Bs) (l:List (Bs × Bs)):insP k v false l≠[]:=by
 induction l with
 | nil=>intro h; cases h
 | cons z l ih =>
  intro h;unfold insP at h;cases d:aBytesLess k z.1 with
  | true=>rw [d] at h; simp at h
  | false =>
   rw [d] at h;simp only [Bool.not_false,wc,cg,if_false,Bool.or_false,dw] at h;exact ih (List.append_eq_nil_iff.1 h).2
def u548:ACode:=.seq (R [6,7,8,10,11,12,13,19,20,21,33] [v 25 8,o 26 (.un .not (t 25)),v 27 26,g 28 27 true (.faddr (t 6) 1),g 29 27 true (.load none (t 28)),g 30 27 true (.faddr (t 10) 0),g 31 27 true (.load none (t 30)),g 32 27 true (.bin .lss (t 29) (t 31)),o 33 (.pick (t 27) (t 32) F)])
 (.after (.cond (t 33) (.seq (R [6,7,10,11,12,13,19,20,21] [v 34 7,o 35 (.faddr (t 6) 1),o 36 (.load none (t 35)),o 37 (.faddr (t 6) 2),o 38 (.load none (t 37)),o 39 (.conv .string (t 38)),o 40 (.build [.str [],.str []] [(0,1,t 36),(1,1,t 39)]),o 41 (.mkslice 2 1 [.str [],.str []] [(0,2,t 40)]),o 42 (.append 2 32 (t 34) (t 41)),v 7 42])
 (R [6,7,8,10,11,12,13,19,20,21] [o 8 (.val Y)])) (.skip)) [6,7,8,10,11,12,13,19,20,21])
def v548:ACode:=.seq (R [6,7,8,10,11,12,13,19,20,21,47] [o 43 (.faddr (t 10) 0),o 44 (.load none (t 43)),o 45 (.faddr (t 6) 1),o 46 (.load none (t 45)),o 47 (.bin .neq (t 44) (t 46))])
 (.after (.cond (t 47) (R [6,7,8,11,12,13,19,20,21] [v 48 7,o 49 (.load (some 2) (t 10)),o 50 (.mkslice 2 1 [.str [],.str []] [(0,2,t 49)]),o 51 (.append 2 32 (t 48) (t 50)),v 7 51]) (.skip)) [6,7,8,11,12,13,19,20,21])
def z548:ACode:=.seq (R [6,7,11,12,13,54] [v 53 8,o 54 (.un .not (t 53))])
 (.after (.cond (t 54) (R [7,11,12,13] [v 55 7,o 56 (.faddr (t 6) 1),o 57 (.load none (t 56)),o 58 (.faddr (t 6) 2),o 59 (.load none (t 58)),o 60 (.conv .string (t 59)),o 61 (.build [.str [],.str []] [(0,1,t 57),(1,1,t 60)]),o 62 (.mkslice 2 1 [.str [],.str []] [(0,2,t 61)]),o 63 (.append 2 32 (t 55) (t 62)),v 7 63]) (.skip)) [7,11,12,13])
theorem body548L0:code548L0 = .live [6,7,8,11,12,13,19,20,21] (.seq (R [6,7,8,11,12,13,19,20,21,22] [o 22 (.bin .lss (t 21) (t 20))])
 (.seq (.after (.cond (t 22) (.skip) (.live [6,7,8,11,12,13] (.exit 2))) [6,7,8,11,12,13,19,20,21])
 (.seq (.after (.block 3 (.seq (R [6,7,8,10,11,12,13,19,20,21] [o 23 (.iaddr 2 (t 19) (t 21)),o 24 (.load (some 2) (t 23)),o 10 (.lalloc [.str [],.str []]),u (.store 2 (t 10) (t 24))])
 (.seq u548 v548))) [6,7,8,11,12,13,19,20,21])
 (R [6,7,8,11,12,13,19,20,21] [o 52 (.bin .add (t 21) (n 1)),v 21 52])))):=rfl
theorem body548L1:code548L1 = .live [0,11,12,13] (.seq (R [0,11,12,13,14] [o 14 (.bin .lss (t 13) (t 12))])
 (.seq (.after (.cond (t 14) (.skip) (.live [0] (.exit 0))) [0,11,12,13])
 (.seq (.after (.block 1 (.seq (R [0,6,11,12,13] [o 15 (.iaddr 3 (t 11) (t 13)),o 16 (.load (some 3) (t 15)),o 6 (.lalloc [.bool false,.str [],.slice none 0 (some 0)]),u (.store 3 (t 6) (t 16))])
 (.seq (R [0,6,7,11,12,13] [o 7 (.val (.const (.slice none 0 (some 0))))])
 (.seq (R [0,6,7,8,11,12,13] [o 17 (.faddr (t 6) 0),o 18 (.load none (t 17)),v 8 18])
 (.seq (.seq (R [6,7,8,11,12,13,19,20,21] [v 19 0,o 20 (.len .sl (t 19)),o 21 (.val (n 0))])
 (.after (.block 2 (.loop code548L0)) [6,7,8,11,12,13]))
 (.seq z548
 (R [0,11,12,13] [v 64 7,v 0 64]))))))) [0,11,12,13])
 (R [0,11,12,13] [o 65 (.bin .add (t 13) (n 1)),v 13 65])))):=rfl
section
variable {H0 P:List AObj} {b N q p:Nat} {k v:Bs} {c lc:Option Nat} {A:List (Bs × Bs)} {x:AVal}
section
attribute [-simp] getElem?_pos getElem?_neg List.all_eq_true
attribute [local simp] qZ qS nltT nltF iltT iltF ileT nleT di
theorem u548_run (hx:FRow N 2 pairC A P x) (W:N≤P.length) (hb:b≤N) (hA:A.length≤1000) (G:P[q]? = some (.cells 1 (v.map u8V))) (X:q < N) {y:Bs × Bs} {done:Bool} {y0 y1:AVal} {m i n:Nat} :
  ∃ P' D,∃ e:Nat→Nat,FRow N 2 pairC (A++if !done && aBytesLess k y.1 then [(k,v)] else []) P' D∧(∀ (j:Nat) (o:AObj),j < N→P[j]? = some o→P'[j]? = some o)∧P.length≤P'.length∧(∀ w,e w≤w∧min w N≤e w)∧∀ (w:Nat) {β:Type} (k':AExit→St→Option β),
   xK T u548 ⟨[(6,.var [.bool false,.str k,.slice (some (q,0)) v.length c]),(7,.val x),(8,.val (.bool done)),(10,.var [.str y.1,.str y.2]),(11,.val y0),(12,.val (.int .i64 m)),(13,.val (.int .i64 0)),(19,.val y1),(20,.val (.int .i64 n)),(21,.val (.int .i64 i))],⟨P,b,w⟩⟩ (k:=⟨k'⟩) =
    k' .normal ⟨[(6,.var [.bool false,.str k,.slice (some (q,0)) v.length c]),(7,.val D),(8,.val (.bool (done || aBytesLess k y.1))),(10,.var [.str y.1,.str y.2]),(11,.val y0),(12,.val (.int .i64 m)),(13,.val (.int .i64 0)),(19,.val y1),(20,.val (.int .i64 n)),(21,.val (.int .i64 i))],⟨P',b,e w⟩⟩:=by
 cases done with
 | true =>
  refine ⟨P,x,fun w=>w,by simpa using hx,fun j o _ h=>h,aj _,fun w=>⟨aj _,cr _ _⟩,fun w β k'=>?_⟩;simp (disch:=omega) [u548]
 | false =>
  cases d:aBytesLess k y.1 with
  | false =>
   refine ⟨P,x,fun w=>w,by simpa using hx,fun j o _ h=>h,aj _,fun w=>⟨aj _,cr _ _⟩,fun w β k'=>?_⟩;simp (disch:=omega) [u548,d]
  | true =>
   obtain ⟨P',D,e,f1,f2,f3,f4,J⟩:=hx.add' (b:=b) (by':=32) (fun _=>rfl) W hb (by omega) (by omega) (k,v);refine ⟨P',D,e,by simpa using f1,fun j o hj h=>f2 j o h fun h2=>by omega,f3,f4,fun w β k'=>?_⟩;have a0:=ah G;have O:=l7 v;have C:(v.map u8V).length=v.length:=a7 _;have Q:(v.map u8V).take v.length=v.map u8V:=dg (by rw [C]; omega);unfold pairC at J;by_cases hv:v.length=0
   ·have U:v=[]:=bn hv;subst U;have V:bytesOf ([]:List AVal)=some []:=rfl;simp (disch:=omega) [u548,-d7,d,J,G,V]
   ·generalize v.map u8V=L at *;simp (disch:=omega) [u548,-d7,d,J,G,O,C,hv,Q]
theorem v548_run (hx:FRow N 2 pairC A P x) (G:N≤P.length) (hb:b≤N) (V:A.length≤1000) {y:Bs × Bs} {done:Bool} {y0 y1 bv:AVal} {m i n:Nat} :
  ∃ P' C,∃ e:Nat→Nat,FRow N 2 pairC (A++if y.1=k then [] else [y]) P' C∧(∀ (j:Nat) (o:AObj),j < N→P[j]? = some o→P'[j]? = some o)∧P.length≤P'.length∧(∀ w,e w≤w∧min w N≤e w)∧∀ (w:Nat) {β:Type} (k':AExit→St→Option β),
   xK T v548 ⟨[(6,.var [.bool false,.str k,bv]),(7,.val x),(8,.val (.bool done)),(10,.var [.str y.1,.str y.2]),(11,.val y0),(12,.val (.int .i64 m)),(13,.val (.int .i64 0)),(19,.val y1),(20,.val (.int .i64 n)),(21,.val (.int .i64 i))],⟨P,b,w⟩⟩ (k:=⟨k'⟩) =
    k' .normal ⟨[(6,.var [.bool false,.str k,bv]),(7,.val C),(8,.val (.bool done)),(11,.val y0),(12,.val (.int .i64 m)),(13,.val (.int .i64 0)),(19,.val y1),(20,.val (.int .i64 n)),(21,.val (.int .i64 i))],⟨P',b,e w⟩⟩:=by
 by_cases d:y.1=k
 ·refine ⟨P,x,fun w=>w,by simpa [d] using hx,fun j o _ h=>h,aj _,fun w=>⟨aj _,cr _ _⟩,fun w β k'=>?_⟩;simp (disch:=omega) [v548,d]
 ·obtain ⟨P',C,e,J,O,Q,U,D⟩:=hx.add' (b:=b) (by':=32) (fun _=>rfl) G hb (by omega) (by omega) y;refine ⟨P',C,e,by rw [if_neg d]; exact J,fun j o W h=>O j o h fun h2=>by omega,Q,U,fun w β k'=>?_⟩;unfold pairC at D;simp (disch:=omega) [v548,-d7,d,D]
theorem z548_run (hx:FRow N 2 pairC A P x) (Q:N≤P.length) (hb:b≤N) (hA:A.length≤1000) (y:P[q]? = some (.cells 1 (v.map u8V))) {done:Bool} {y0:AVal} {m:Nat} :
  ∃ P' j,∃ d:Nat→Nat,FRow N 2 pairC (A++if done then [] else [(k,v)]) P' j∧P.length≤P'.length∧(∀ w,d w≤w∧min w N≤d w)∧∀ (w:Nat) {β:Type} (k':AExit→St→Option β),
   xK T z548 ⟨[(6,.var [.bool false,.str k,.slice (some (q,0)) v.length c]),(7,.val x),(8,.val (.bool done)),(11,.val y0),(12,.val (.int .i64 m)),(13,.val (.int .i64 0))],⟨P,b,w⟩⟩ (k:=⟨k'⟩) =
    k' .normal ⟨[(7,.val j),(11,.val y0),(12,.val (.int .i64 m)),(13,.val (.int .i64 0))],⟨P',b,d w⟩⟩:=by
 cases done with
 | true =>
  refine ⟨P,x,fun w=>w,by simpa using hx,aj _,fun w=>⟨aj _,cr _ _⟩,fun w β k'=>?_⟩;simp (disch:=omega) [z548]
 | false =>
  obtain ⟨P',j,d,U,f2,V,W,C⟩:=hx.add' (b:=b) (by':=32) (fun _=>rfl) Q hb (by omega) (by omega) (k,v);refine ⟨P',j,d,by simpa using U,V,W,fun w β k'=>?_⟩;have X:=ah y;have D:=l7 v;have e:(v.map u8V).length=v.length:=a7 _;have G:(v.map u8V).take v.length=v.map u8V:=dg (by rw [e]; omega);unfold pairC at C;by_cases hv:v.length=0
  ·have J:v=[]:=bn hv;subst J;have O:bytesOf ([]:List AVal)=some []:=rfl;simp (disch:=omega) [z548,-d7,C,y,O]
  ·generalize v.map u8V=L at *;simp (disch:=omega) [z548,-d7,C,y,D,e,hv,G]
end
variable {L:List (Bs × Bs)}
section
attribute [-simp] getElem?_pos getElem?_neg List.all_eq_true
attribute [local simp] qZ qS nltT nltF iltT iltF ileT nleT di
theorem l548 {a:Option (Nat × Nat)} (hR:Row H0 2 pairC L a) (hn:L.length≤100) (hb:b≤H0.length) (U:H0[q]? = some (.cells 1 (v.map u8V))) {y0:AVal} {m:Nat}:∀ (j i w:Nat) (P:List AObj) (A:List (Bs × Bs)) (x:AVal) (done:Bool),i+j=L.length→A.length≤2*i→Pre H0 P→FRow H0.length 2 pairC A P x →
  ∃ P' D O d w',Pre H0 P'∧FRow H0.length 2 pairC D P' O∧D.length≤2*L.length∧(D++if d then [] else [(k,v)])=A++insP k v done (L.drop i)∧(H0.length≤w→H0.length≤w')∧∀ {β:Type} (k':AExit→St→Option β),
  xK T (.loop code548L0) ⟨[(6,.var [.bool false,.str k,.slice (some (q,0)) v.length c]),(7,.val x),(8,.val (.bool done)),(11,.val y0),(12,.val (.int .i64 m)),(13,.val (.int .i64 0)),(19,.val (.slice a L.length lc)),(20,.val (.int .i64 L.length)),(21,.val (.int .i64 i))],⟨P,b,w⟩⟩ (k:=⟨k'⟩) =
   k' (.exit 2) ⟨[(6,.var [.bool false,.str k,.slice (some (q,0)) v.length c]),(7,.val O),(8,.val (.bool d)),(11,.val y0),(12,.val (.int .i64 m)),(13,.val (.int .i64 0))],⟨P',b,w'⟩⟩
 | 0,i,w,P,A,x,done,hi,hA,e,hx=>by have hd:L.drop i=[]:=dk (by omega);refine ⟨P,A,x,done,w,e,hx,by omega,by rw [hd]; rfl,fun h=>h,fun k'=>?_⟩;rw [b9,body548L0];simp (disch:=omega) []
 | j+1,i,w,P,A,x,done,hi,hA,e,hx=>by
  obtain ⟨y,V⟩:∃ y,L[i]? = some y:=⟨_,ai (by omega)⟩;obtain ⟨bb,o,cs,rfl,G,C⟩:=hR.at' (lx V);obtain ⟨p1,p2⟩:=C i y V;have W:pairC y=[.str y.1,.str y.2]:=rfl;rw [W] at p2;have X:=e _ _ G;have a0:=ah U;obtain ⟨P1,x1,J,g1,g2,g3,g4,g5⟩:=u548_run (b:=b) (k:=k) (v:=v) (c:=c) (y:=y) (done:=done) (y0:=y0) (y1:=.slice (some (bb,o)) L.length lc) (m:=m) (i:=i) (n:=L.length) hx e.len hb (by omega) (e _ _ U) a0
  have ac:(A++if !done && aBytesLess k y.1 then [(k,v)] else []).length≤2*i+1:=by rw [au];split <;> simp <;> omega
  obtain ⟨P2,x2,a6,k1,k2,k3,k4,k5⟩:=v548_run (b:=b) (k:=k) (y:=y) (done:=done || aBytesLess k y.1) (y0:=y0) (y1:=.slice (some (bb,o)) L.length lc) (bv:=.slice (some (q,0)) v.length c) (m:=m) (i:=i) (n:=L.length) g1 (de e.len g3) hb (by omega)
  have aa:((A++if !done && aBytesLess k y.1 then [(k,v)] else [])++if y.1=k then [] else [y]).length≤2*(i+1):=by
   have h1:(if y.1=k then [] else [y]).length≤1:=by split <;> simp
   rw [au]; omega
  obtain ⟨P',D,O,d,w',i1,i2,i3,i4,i5,Q⟩:=l548 hR hn hb U (y0:=y0) (m:=m) j (i+1) (a6 (J w)) P2 _ x2 (done || aBytesLess k y.1) (by omega) aa (fun s o hs=>k2 s o (ah hs) (g2 s o (ah hs) (e s o hs))) k1;refine ⟨P',D,O,d,w',i1,i2,i3,?_,fun hw=>i5 (by have:=g4 w; have:=k4 (J w); omega),fun k'=>?_⟩
  ·rw [i4,iy V];conv=>rhs; unfold insP
   rw [ba,ba]
  ·have Q:=Q k';have e2:((i+1:Nat):Int)=(i:Int)+1:=by omega
   rw [e2] at Q;rw [b9,← Q,body548L0];generalize ACode.loop code548L0=LL;simp (disch:=omega) [X,p1,p2,g5,k5]
theorem s548 {a:Option (Nat × Nat)} (hR:Row H0 2 pairC L a) (hn:L.length≤100) (hb:b≤H0.length) (hp:H0[p]? = some (.cells 3 [.bool false,.str k,.slice (some (q,0)) v.length c])) (U:H0[q]? = some (.cells 1 (v.map u8V))) {c':Option Nat} (w:Nat) :
  xCall T 548 [.slice a L.length lc,.slice (some (p,0)) 1 c'] ⟨H0,b,w⟩=some (.slice (some (H0.length,0)) (insP k v false L).length none,⟨H0++[.cells 2 ((insP k v false L).flatMap pairC)],b,w⟩):=by
 have a0:=ah U;obtain ⟨P',A',x',d,w',i1,i2,i3,X,i5,J⟩:=l548 (b:=b) (k:=k) (c:=c) (lc:=lc) hR hn hb U (y0:=.slice (some (p,0)) 1 c') (m:=1) L.length 0 H0.length H0 [] (.slice none 0 (some 0)) false (by omega) (by simp) (Pre.refl _) (.inl ⟨rfl,rfl⟩);rw [dw,ff] at X;obtain ⟨P2,x2,V,k1,k2,k3,O⟩:=z548_run (b:=b) (k:=k) (v:=v) (c:=c) (done:=d) (y0:=.slice (some (p,0)) 1 c') (m:=1) i2 i1.len hb (by omega) (i1 _ _ U);rw [X] at k1;have W:=ins_ne k v L;rcases k1 with ⟨e,-⟩ | ⟨-,r,hr,rfl,j⟩
 ·exact absurd e W
 have a6:=k3 w';have y:H0.length≤V w':=by have:=i5 (aj _); omega
 have C:AVal.idsL ((insP k v false L).flatMap pairC)=[]:=by
  generalize insP k v false L=Q;induction Q with
  | nil=>rfl
  | cons z Q ih=>simp [d0,pairC,AVal.idsL,AVal.ids,ih]
 have D:∀ g,AVal.renL g ((insP k v false L).flatMap pairC)=(insP k v false L).flatMap pairC:=fun g=>by
  generalize insP k v false L=Q;induction Q with
  | nil=>rfl
  | cons z Q ih=>simp [d0,pairC,AVal.renL,AVal.ren,ih]
 have G:=mw (b:=b) (w:=w) (n:=(insP k v false L).length) (c:=none) j C D hr y;generalize (insP k v false L).flatMap pairC=Y at *;generalize (insP k v false L).length=nn at *;have J:=fun {β:Type} (k':AExit→St→Option β)=>J k'
 have O:=fun {β:Type} w (k':AExit→St→Option β)=>O w k'
 simp only [bf] at J O;simp (disch:=omega) [bg t548,code548,-dj,b9,body548L1,hp,J,O,G]
end
end
end Go.Abs.AbsBlb

namespace Go.Abs.AbsBlo
open Go.Abs.AbsBlb hiding T
theorem zag:∀ {x y:Bs},aBytesLess x y=false→aBytesLess y x=false→x=y
 | [],[],_,_=>rfl
 | [],_ :: _,h,_=>by cases h
 | _ :: _,[],_,h=>by cases h
 | a :: x,b :: y,h1,h2=>by unfold aBytesLess at h1 h2;simp only [i9,Bool.and_eq_false_iff,decide_eq_false_iff_not,beq_eq_false_iff_ne,UInt8.lt_iff_toNat_lt] at h1 h2;obtain ⟨C,d⟩:=h1;obtain ⟨D,j⟩:=h2;have e:a=b:=UInt8.toNat_inj.1 (by omega);subst e;rw [zag (d.resolve_left fun f=>f rfl) (j.resolve_left fun f=>f rfl)]
theorem vm {x y z:Bs} (h1:aBytesLess x y=true) (h2:aBytesLess y z=true):aBytesLess x z=true:=by
 cases c:aBytesLess x z with
 | true=>rfl
 | false =>
  have e:leB z x=true:=by unfold leB; rw [c]; rfl
  have j:leB x y=true:=by unfold leB; rw [ve h1]; rfl
  have d:=yo e j;unfold leB at d;rw [h2] at d;cases d
def look (k:Bs):List (Bs × Bs)→Option Bs
 | []=>none
 | p :: r=>if p.1=k then some p.2 else look k r
def SrtP (l:List (Bs × Bs)):Prop:=l.Pairwise fun p q=>aBytesLess p.1 q.1=true
theorem zah {k v:Bs}:∀ {l:List (Bs × Bs)},(∀ p ∈ l,p.1≠k)→insP k v true l=l
 | [],_=>rfl
 | p :: r,h=>by unfold insP;rw [if_neg (h p (a8 ..))];simp only [Bool.not_true,Bool.false_and,cg,if_false,Bool.true_or,dw,fh];rw [zah fun q d=>h q (bd _ d)]
theorem zai {k v:Bs} {p:Bs × Bs} {r:List (Bs × Bs)} (h:SrtP (p :: r)):insP k v false (p :: r)=if aBytesLess k p.1=true then (k,v) :: p :: r else if p.1=k then (k,v) :: r else p :: insP k v false r:=by
 obtain ⟨h1,h2⟩:=ja.1 h;conv=>lhs; unfold insP
 by_cases c:aBytesLess k p.1=true
 ·have d:p.1≠k:=fun e=>by rw [e,n7] at c; cases c
  have hr:∀ q ∈ r,q.1≠k:=fun q j e=>by have:=vm c (h1 q j);rw [e,n7] at this;cases this
  rw [if_pos c,if_neg d,c];simp only [Bool.not_false,wc,if_true,Bool.false_or];rw [zah hr]; rfl
 ·have c':aBytesLess k p.1=false:=by simpa using c
  rw [if_neg c,c'];simp only [Bool.not_false,wc,cg,if_false,Bool.or_false,dw];by_cases e:p.1=k
  ·rw [if_pos e,if_pos e,dw];cases r with
   | nil=>rfl
   | cons q r =>
    have j:aBytesLess k q.1=true:=by rw [← e]; exact h1 q (a8 ..)
    have d:q.1≠k:=fun D=>by rw [D,n7] at j; cases j
    obtain ⟨G,-⟩:=ja.1 h2
    have hr:∀ y ∈ r,y.1≠k:=fun y C J=>by have:=vm j (G y C);rw [J,n7] at this;cases this
    unfold insP;rw [if_neg d,j];simp only [Bool.not_false,wc,if_true,Bool.false_or];rw [zah hr]; rfl
  ·rw [if_neg e,if_neg e]; rfl
theorem ins_mem {k v:Bs}:∀ {l:List (Bs × Bs)},SrtP l→∀ q ∈ insP k v false l,q=(k,v)∨q ∈ l
 | [],_,q,d=>by have d:q ∈ [(k,v)]:=d;exact .inl (bk.1 d)
 | p :: r,h,q,d=>by
  rw [zai h] at d;split at d
  ·rcases cj.1 d with e | e
   ·exact .inl e
   ·exact .inr e
  ·split at d
   ·rcases cj.1 d with e | e
    ·exact .inl e
    ·exact .inr (bd _ e)
   ·rcases cj.1 d with e | e
    ·exact .inr (by rw [e]; exact a8 ..)
    ·rcases ins_mem (ja.1 h).2 q e with e | e
     ·exact .inl e
     ·exact .inr (bd _ e)
theorem ins_srt {k v:Bs}:∀ {l:List (Bs × Bs)},SrtP l→SrtP (insP k v false l)
 | [],_=>List.pairwise_singleton ..
 | p :: r,h=>by
  have h0:=h;obtain ⟨h1,h2⟩:=ja.1 h;rw [zai h];split
  ·rename_i c;refine ja.2 ⟨fun q d=>?_,h⟩;rcases cj.1 d with e | e
   ·rw [e]; exact c
   ·exact vm c (h1 q e)
  ·rename_i c;have c':aBytesLess k p.1=false:=by simpa using c
   split
   ·rename_i e;exact ja.2 ⟨fun q d=>by rw [← e]; exact h1 q d,h2⟩
   ·rename_i e
    have j:aBytesLess p.1 k=true:=by
     cases c2:aBytesLess p.1 k with
     | true=>rfl
     | false=>exact absurd (zag c2 c') e
    refine ja.2 ⟨fun q d=>?_,ins_srt h2⟩;rcases ins_mem h2 q d with y | y
    ·rw [y]; exact j
    ·exact h1 q y
theorem ins_look {k v k':Bs}:∀ {l:List (Bs × Bs)},SrtP l→look k' (insP k v false l)=if k'=k then some v else look k' l
 | [],_=>by
  show look k' [(k,v)]=_
  unfold look;by_cases e:k'=k
  ·rw [if_pos e,if_pos e.symm]
  ·rw [if_neg e,if_neg fun f=>e f.symm]; rfl
 | p :: r,h=>by
  rw [zai h];have y:=ins_look (k:=k) (v:=v) (k':=k') (ja.1 h).2;have j:look k' (p :: r)=if p.1=k' then some p.2 else look k' r:=rfl
  split
  ·have:look k' ((k,v) :: p :: r)=if k=k' then some v else look k' (p :: r):=rfl
   rw [this];by_cases e:k'=k
   ·rw [if_pos e,if_pos e.symm]
   ·rw [if_neg e,if_neg fun f=>e f.symm]
  ·split
   ·rename_i d;have:look k' ((k,v) :: r)=if k=k' then some v else look k' r:=rfl
    rw [this,j];by_cases e:k'=k
    ·rw [if_pos e,if_pos e.symm]
    ·rw [if_neg e,if_neg fun f=>e f.symm,if_neg fun f=>e (by rw [← f,d])]
   ·rename_i d;have:look k' (p :: insP k v false r)=if p.1=k' then some p.2 else look k' (insP k v false r):=rfl
    rw [this,j,y];by_cases e:p.1=k'
    ·rw [if_pos e,if_pos e,if_neg fun f=>d (by rw [e,f])]
    ·rw [if_neg e,if_neg e]
theorem td {k:Bs}:∀ {l:List (Bs × Bs)},k ∈ l.map (·.1) ↔ look k l≠none
 | []=>by simp [look]
 | p :: r=>by
  unfold look;rw [bi,cj,td];by_cases e:p.1=k
  ·rw [if_pos e]; simp [e]
  ·rw [if_neg e];constructor
   ·rintro (h | h)
    ·exact absurd h.symm e
    ·exact h
   ·exact .inr
theorem SrtP.nodup {l:List (Bs × Bs)} (h:SrtP l):(l.map (·.1)).Nodup:=by
 unfold List.Nodup;rw [List.pairwise_map]
 exact h.imp fun {p q} d e=>by rw [e,n7] at d;cases d
theorem uv {l:List (Bs × Bs)} (h:SrtP l) {p:Bs × Bs} (j:p ∈ l):look p.1 l=some p.2:=by
 induction l with
 | nil=>cases j
 | cons a r ih =>
  obtain ⟨h1,h2⟩:=ja.1 h;unfold look;rcases cj.1 j with e | e
  ·rw [e,if_pos rfl]
  ·have d:=h1 p e;rw [if_neg fun f=>by rw [f,n7] at d; cases d];exact ih h2 e
def HoldP (K:StU) (l:List (Bs × Bs)):Prop:=SrtP l∧∀ k,blobK K k=look k l
theorem yq:∀ {l l':List Bs},(l.Pairwise fun x y=>aBytesLess x y=true)→(l'.Pairwise fun x y=>aBytesLess x y=true)→(∀ x,x ∈ l ↔ x ∈ l')→l=l'
 | [],[],_,_,_=>rfl
 | [],a :: l',_,_,h=>absurd ((h a).2 (a8 ..)) (by simp)
 | a :: l,[],_,_,h=>absurd ((h a).1 (a8 ..)) (by simp)
 | a :: l,b :: l',h1,h2,h=>by
  obtain ⟨j,D⟩:=ja.1 h1;obtain ⟨C,G⟩:=ja.1 h2
  have e:a=b:=by
   rcases cj.1 ((h a).1 (a8 ..)) with e | e
   ·exact e
   ·rcases cj.1 ((h b).2 (a8 ..)) with d | d
    ·exact d.symm
    ·have:=ve (C a e);rw [j b d] at this;cases this
  subst e
  have:l=l':=yq D G fun x=>by
   constructor
   ·intro hx;rcases cj.1 ((h x).1 (bd _ hx)) with e | e
    ·have:=j x hx;rw [e,n7] at this;cases this
    ·exact e
   ·intro hx;rcases cj.1 ((h x).2 (bd _ hx)) with e | e
    ·have:=C x hx;rw [e,n7] at this;cases this
    ·exact e
  rw [this]
theorem HoldP.keys {K:StU} {l:List (Bs × Bs)} (h:HoldP K l) (hx:IxOK K.ix K.clock) {d:List Bs} (h1:d.Perm (K.ix.map (·.1))) (h2:d.Pairwise fun x y=>leB x y=true):d=l.map (·.1):=by
 have C:d.Nodup:=h1.nodup_iff.2 hx.k;refine yq ?_ ?_ fun x=>?_
 ·have hb:=h2.and C;refine hb.imp fun {x y} e=>?_
  obtain ⟨j,D⟩:=e;cases c:aBytesLess x y with
  | true=>rfl
  | false =>
   refine absurd (zag c ?_) D;unfold leB at j;simpa using j
 ·rw [List.pairwise_map]; exact h.1
 ·rw [h1.mem_iff,qt,td,h.2 x]
theorem HoldP.live {K:StU} {l:List (Bs × Bs)} (h:HoldP K l) (hx:IxOK K.ix K.clock):liveT K.ix=liveP l:=by
 rw [liveT_eq hx];have d:(K.ix.map (·.1)).Perm (l.map (·.1)):=(List.perm_ext_iff_of_nodup hx.k h.1.nodup).2 fun k=>by rw [qt,td,h.2 k]
 rw [zan (d.map _),ut];unfold liveP;congr 1;refine pf fun p d=>?_
 show fK K p.1+16=_
 unfold fK;rw [zaj,h.2 p.1,uv h.1 d];simp only [ed];omega
theorem HoldP.put {K K1 K':StU} {l:List (Bs × Bs)} (h:HoldP K l) (h1:Told K K1) {k v:Bs} {hd:Nat} {A:List RV} {x:AVal} (d:A=[(⟨1,1,k,v,0⟩,x)]) (hw:K'=wroteK K1 hd A):HoldP K' (insP k v false l):=by refine ⟨ins_srt h.1,fun k'=>?_⟩;rw [ins_look h.1,← h.2 k',← h1 k',hw,d];have:blobK (wroteK K1 hd [(⟨1,1,k,v,0⟩,x)]) k'=blobK (({ K1 with txn:=K1.txn+1,at_:=K1.at_+sizes (([(⟨1,1,k,v,0⟩,x)]:List RV).map Prod.fst)+16 }:StU).put k ⟨hd,K1.at_,v⟩) k':=rfl;rw [this,blobK_put];rfl
end Go.Abs.AbsBlo

namespace Go.Abs.AbsBrm
open Go.Abs.Short
-- base: AbsBlo
def code546L0:ACode :=
 .live [0,3,9,10,11] (S (R [0,3,9,10,11,12] [o 12 (Bt .lss 11 10)])
 (S (.after (.cond (t 12) (.skip) (.live [3] (.exit 0))) [0,3,9,10,11])
 (S (.after (.block 1 (S (R [0,3,5,9,10,11] [o 13 (.iaddr 1 (t 9) (t 11)),o 14 (Lq 13),v 5 14])
 (S (R [0,3,5,6,9,10,11] [v 16 0,v 17 5,o 18 (.callg 482 [t 16,t 17]),v 15 18,o 19 (Xt 15 0),o 20 (Xt 15 1),v 6 19,v 7 20])
 (R [0,3,9,10,11] [v 21 3,v 22 5,v 23 6,o 24 (.conv .string (t 23)),o 25 (.build [.str [],.str []] [(0,1,t 22),(1,1,t 24)]),o 26 (.mkslice 2 1 [.str [],.str []] [(0,2,t 25)]),o 27 (.append 2 32 (t 21) (t 26)),v 3 27])))) [0,3,9,10,11])
 (R [0,3,9,10,11] [o 28 (Bn .add 11 1),v 11 28]))))
def code546:AFunc:=⟨false,false,1,30,[.tmp 2],
 S (R [0] [o 2 (.val (.const (.slice none 0 (some 0))))])
 (S (R [0,3] [o 3 (.val (.const (.slice none 0 (some 0))))])
 (S (S (R [0,3,9,10,11] [v 8 0,o 9 (.callg 480 [t 8,Ks []]),o 10 (Sl 9),o 11 (.val (n 0))])
 (.after (.block 0 (.loop code546L0)) [3]))
 (S (R [2] [v 29 3,v 2 29])
 (Z [2])))),none⟩
def code554L0:ACode :=
 .live [2,9,12,14,52,53] (S (R [2,9,12,14,52,53,54] [o 54 (Bt .lss 53 52)])
 (S (.after (.cond (t 54) (.skip) (.live [12,14] (.exit 0))) [2,9,12,14,52,53])
 (S (.after (.block 1 (S (R [2,9,12,14,15,52,53] [v 55 53,v 15 55])
 (S (S (R [2,9,12,14,15,52,53,58] [v 56 2,o 57 (Sl 56),o 58 (Bn .eql 57 0)])
 (.after (.cond (t 58) (S (R [8] [o 8 (.val Y)])
 (Z [8])) (.skip)) [2,9,12,14,15,52,53]))
 (S (R [2,9,12,14,15,16,52,53] [v 59 15,v 60 2,o 61 (Sl 60),o 62 (Bt .rem 59 61),v 16 62])
 (S (.after (.region [⟨true,[0,1,3,7,15,0,0,96,224,480,992,0,2048,8160,16352],[v 63 16,o 64 (.bin .add (n 97) (t 63)),o 65 (.conv (.int .u8) (t 64)),o 66 (.mkslice 1 1 [.int .u8 0] [(0,1,t 65)]),o 67 (.conv .string (t 66)),v 68 2,v 69 16,o 70 (.iaddr 1 (t 68) (t 69)),o 71 (Lq 70),o 72 (.bin .rem (t 71) (.const (.int .u8 40))),o 73 (.conv (.int .i64) (t 72)),v 74 15,o 75 (Bn .rem 74 3),o 76 (Bt .add 73 75),o 77 (.make 1 1 [.int .u8 0] (t 76) (t 76))]⟩,⟨false,[],[o 78 (.build [.bool false,.str [],.slice none 0 (some 0)] [(1,1,t 67),(2,1,t 77)]),o 79 (.mkslice 3 1 [.bool false,.str [],.slice none 0 (some 0)] [(0,3,t 78)]),v 17 79]⟩]) [2,9,12,14,17,52,53])
 (S (S (.after (.region [⟨true,[],[v 80 17,o 81 (Fa 9 1),o 82 (Lq 81)]⟩,⟨false,[],[o 83 (.callg 550 [t 80,t 82]),o 84 (Bn .neq 83 0),v 85 84]⟩,⟨true,[],[g 86 85 false (Vl 14),g 87 85 false (.callg 551 [t 86]),g 88 85 false (Vl 17),g 89 85 false (.callg 552 [t 88]),g 90 85 false (Bt .add 87 89),g 91 85 false (.load (some 3) (t 9)),g 92 85 false (.callg 553 [t 91])]⟩,⟨false,[],[g 93 85 false (Bt .gtr 90 92),o 94 (.pick (t 85) Y (t 93))]⟩]) [2,9,12,14,17,52,53,94])
 (.after (.cond (t 94) (.live [2,9,12,14,52,53] (.exit 1)) (.skip)) [2,9,12,14,17,52,53]))
 (S (S (R [2,9,12,14,17,52,53,98] [v 95 12,v 96 17,o 97 (.callg 549 [t 95,t 96]),o 98 (Bn .neq 97 0)])
 (.after (.cond (t 98) (S (R [8] [o 8 (.val F)])
 (Z [8])) (.skip)) [2,9,12,14,17,52,53]))
 (R [2,9,12,14,52,53] [v 99 14,v 100 17,o 101 (.callg 548 [t 99,t 100]),v 14 101])))))))) [2,9,12,14,52,53])
 (R [2,9,12,14,52,53] [o 102 (Bn .add 53 1),v 53 102]))))
def code554:AFunc:=⟨false,false,4,107,[.tmp 8],
 S (R [0,1,2,3] [o 8 (.val F)])
 (S (S (R [0,1,2,3,19] [o 18 (.callg 557 []),o 19 (.un .not (t 18))])
 (.after (.cond (t 19) (S (R [8] [o 8 (.val F)])
 (Z [8])) (.skip)) [0,1,2,3]))
 (S (S (R [0,1,2,3,22] [v 20 2,o 21 (Sl 20),o 22 (Bn .gtr 21 10)])
 (.after (.cond (t 22) (S (R [8] [o 8 (.val Y)])
 (Z [8])) (.skip)) [0,1,2,3]))
 (S (R [2,3,9] [v 23 0,o 24 (.bin .rem (t 23) (.const (.int .u8 5))),o 25 (.conv (.int .i64) (t 24)),o 26 (.bin .add (n 3) (t 25)),v 27 1,o 28 (.bin .rem (t 27) (.const (.int .u8 60))),o 29 (.conv (.int .i64) (t 28)),o 30 (.bin .mul (n 4) (t 29)),o 31 (.bin .add (n 128) (t 30)),o 32 (.build [.int .i64 0,.int .i64 0,.int .i64 0] [(0,1,t 26),(1,1,t 31),(2,1,n 1048576)]),o 9 (.lalloc [.int .i64 0,.int .i64 0,.int .i64 0]),u (.store 3 (t 9) (t 32))])
 (S (R [2,3,9,10,11] [o 34 (.load (some 3) (t 9)),o 35 (.callg 556 [t 34]),v 33 35,o 36 (Xt 33 0),o 37 (Xt 33 1),v 10 36,v 11 37])
 (S (R [2,3,9,11,12,13] [v 39 10,o 40 (.callg 555 [t 39]),v 38 40,o 41 (Xt 38 0),o 42 (Xt 38 1),v 12 41,v 13 42])
 (S (S (R [2,3,9,12,48] [v 43 11,o 44 (Bn .neq 43 0),v 45 44,g 46 45 false (Vl 13),g 47 45 false (Bn .neq 46 0),o 48 (.pick (t 45) Y (t 47))])
 (.after (.cond (t 48) (S (R [8] [o 8 (.val F)])
 (Z [8])) (.skip)) [2,3,9,12]))
 (S (R [2,3,9,12,14] [o 14 (.val (.const (.slice none 0 (some 0))))])
 (S (S (R [2,9,12,14,52,53] [v 49 3,o 50 (.bin .rem (t 49) (.const (.int .u8 60))),o 51 (.conv (.int .i64) (t 50)),o 52 (.bin .add (n 1) (t 51)),o 53 (.val (n 0))])
 (.after (.block 0 (.loop code554L0)) [12,14]))
 (S (R [8] [v 103 12,o 104 (.callg 546 [t 103]),v 105 14,o 106 (.callg 547 [t 104,t 105]),v 8 106])
 (Z [8])))))))))),none⟩
def T:Nat→Option AFunc:=fun g=>match AbsBlo.T g with
 | some f=>some f
 | none=>List.lookup g [(546,code546),(554,code554)]
theorem sub:∀ g f,AbsBlo.T g=some f→T g=some f:=fun g f h=>by unfold T; rw [h]
theorem t546:T 546=some code546:=rfl
theorem t554:T 554=some code554:=rfl
end Go.Abs.AbsBrm

namespace Go.Abs.AbsBrm
open Go.Abs.AbsBlb hiding T
open Go.Abs.AbsBlo (CodeD.run OpsD.run KeysP CodesK d480 sr HoldP uv blobK begP)
open Go.Abs.Short
theorem beg_nil (L:List Bs):L.filter (begP [])=L:=by
 refine List.filter_eq_self.2 fun x _=>?_
 unfold begP;simp
section
variable {H1:List AObj} {b q:Nat} {I:SI} {F:Fl} {K:StU} {l:List (Bs × Bs)} {R:List Bs}
section
attribute [-simp] getElem?_pos getElem?_neg List.all_eq_true
attribute [local simp] qZ qS nltT nltF iltT iltF ileT nleT di
theorem l546 (W:StA H1 I F K) (hh:HoldP K l) (hl:∀ p ∈ l,p.1.length≤64∧p.2.length≤4096) (hn:l.length≤100) (hb:b≤H1.length) (hq:H1[q]? = some (strsO R)) (hR:R.take l.length=l.map (·.1)):∀ (j i w:Nat) (P:List AObj) (x:AVal),i+j=l.length→Pre H1 P→FRow H1.length 2 pairC (l.take i) P x →
  ∃ P' X w',Pre H1 P'∧FRow H1.length 2 pairC l P' X∧(min w H1.length≤w')∧∀ {β:Type} (k':AExit→St→Option β),
  xK T (.loop code546L0) ⟨[(0,.val (.ptr (some (I.s,0)))),(3,.val x),(9,.val (.slice (some (q,0)) l.length none)),(10,.val (.int .i64 l.length)),(11,.val (.int .i64 i))],⟨P,b,w⟩⟩ (k:=⟨k'⟩)=k' (.exit 0) ⟨[(3,.val X)],⟨P',b,w'⟩⟩
 | 0,i,w,P,x,hi,D,hx=>by have hd:l.take i=l:=dg (by omega);rw [hd] at hx;refine ⟨P,x,w,D,hx,cr _ _,fun k'=>?_⟩;rw [b9];simp (disch:=omega) [code546L0]
 | j+1,i,w,P,x,hi,D,hx=>by
  obtain ⟨y,hy⟩:∃ y,l[i]? = some y:=⟨_,ai (by omega)⟩;have J:=br hy;have O:=hh.2 y.1;rw [uv hh.1 J] at O;obtain ⟨e,he,C⟩:=ae.1 (show (findK y.1 K.ix).map (fun x=>x.2.blob)=some y.2 from O);have C:e.2.blob=y.2:=C;have a0:StA P I F K:=W.low (N:=H1.length) ⟨W.hi,ah W.fl.f⟩ fun k o _ ho=>D k o ho
  obtain ⟨b1,b2⟩:=hl y J;have d:=fun w=>cf sub (cf AbsBlo.sub (s482 (b:=b) (w:=w) a0 he (by rw [C]; omega)))
  rw [C] at d
  have a6:R[i]? = some y.1:=by have:=congrArg (fun z=>z[i]?) hR;simp only [bp,hy,b8] at this;rwa [eo,if_pos (by omega)] at this
  have gR:(R.map AVal.str)[i]? = some (.str y.1):=by rw [bp,a6]; rfl
  have Q:P[q]? = some (.cells 1 (R.map AVal.str)):=D _ _ hq;have aa:FRow H1.length 2 pairC (l.take i) (P++[.cells 1 (y.2.map u8V)]) x:=hx.mono fun k o _ ho=>by rw [ag (ah ho)]; exact ho
  have U:(l.take i).length=i:=by rw [db]; omega
  obtain ⟨P',X,nx,f1,f2,f3,f4,G⟩:=aa.add' (b:=b) (by':=32) (fun _=>rfl) (by rw [au]; have:=D.len; omega) hb (by rw [U]; omega) (by rw [U]; omega) y;have ac:Pre H1 P':=fun k o ho=>f2 k o (by rw [ag (ah (D k o ho))]; exact D k o ho) fun h=>by have:=ah ho; omega
  have ad:l.take i++[y]=l.take (i+1):=by rw [List.take_add_one,hy]; rfl
  rw [ad] at f1;obtain ⟨P2,x2,w2,i1,i2,i3,i4⟩:=l546 W hh hl hn hb hq hR j (i+1) (nx w) P' X (by omega) ac f1;refine ⟨P2,x2,w2,i1,i2,by have:=f4 w; omega,fun k'=>?_⟩;have i4:=i4 k';have e2:((i+1:Nat):Int)=(i:Int)+1:=by omega
  rw [e2] at i4;rw [b9,← i4];generalize ACode.loop code546L0=LL;have hg:(P++[AObj.cells 1 (y.2.map u8V)])[P.length]? = some (.cells 1 (y.2.map u8V)):=gc _ _;have al:=l7 y.2;have V:(y.2.map u8V).length=y.2.length:=a7 _;have an:(y.2.map u8V).take y.2.length=y.2.map u8V:=dg (by rw [V]; omega);have b5:P.length < (P++[AObj.cells 1 (y.2.map u8V)]).length:=by simp
  have ao:pairC y=[.str y.1,.str y.2]:=rfl;rw [ao] at G;generalize R.map AVal.str=Y at *;by_cases hv:y.2.length=0
  ·have ax:y.2=[]:=bn hv;rw [ax] at d hg G;have ay:bytesOf ([]:List AVal)=some []:=rfl;simp only [List.map_nil,eq,bf] at d hg G;simp only [ba,fh,dw,au,cq,eq,dq] at G;simp (disch:=omega) [code546L0,-d7,Q,gR,d,hg,G,ay]
  ·generalize hM:P++[AObj.cells 1 (y.2.map u8V)]=M at *;generalize y.2.map u8V=Z at *;simp (disch:=omega) [code546L0,-d7,Q,gR,d,hM,hg,G,al,V,hv,an]
end
end
section
variable {E:Env} {H:List AObj} {b:Nat} {I:SI} {F:Fl} {K:StU} {l:List (Bs × Bs)}
def PairsQ (l:List (Bs × Bs)) (H:List AObj) (b w:Nat) (v:AVal) (h':Heap):Prop :=
 (l=[]∧v = .slice none 0 (some 0)∧h'=⟨H,b,w⟩)∨(l≠[]∧v = .slice (some (H.length,0)) l.length none∧h'=⟨H++[.cells 2 (l.flatMap pairC)],b,w⟩)
theorem ids_pair (l:List (Bs × Bs)):AVal.idsL (l.flatMap pairC)=[]:=by
 induction l with
 | nil=>rfl
 | cons z Q ih=>simp [d0,pairC,AVal.idsL,AVal.ids,ih]
theorem ren_pair (l:List (Bs × Bs)) (g:Nat→Nat):AVal.renL g (l.flatMap pairC)=l.flatMap pairC:=by
 induction l with
 | nil=>rfl
 | cons z Q ih=>simp [d0,pairC,AVal.renL,AVal.ren,ih]
section
attribute [-simp] getElem?_pos getElem?_neg List.all_eq_true
attribute [local simp] qZ qS nltT nltF iltT iltF ileT nleT di
theorem d546 (d:AgreesX E T) (hC:CodesK E) (hF:IsCode E 546 code546) (h:StA H I F K) (hx:IxOK K.ix K.clock) (J:K.ix.length≤12) (hh:HoldP K l) (hl:∀ p ∈ l,p.1.length≤64∧p.2.length≤4096) (hn:l.length≤100) (hb:b≤H.length) (w:Nat) :
  CallD E 546 [.ptr (some (I.s,0))] ⟨H,b,w⟩ (PairsQ l H b w):=by
 have hm:=hC.m;refine CallD.of_code hF rfl ?_
 have j:code546.body = .seq (R [0] [o 2 (.val (.const (.slice none 0 (some 0))))])
  (.seq (R [0,3] [o 3 (.val (.const (.slice none 0 (some 0))))])
  (.seq (.seq (R [0,3,9,10,11] [v 8 0,o 9 (.callg 480 [t 8,.const (.str [])]),o 10 (.len .sl (t 9)),o 11 (.val (n 0))])
  (.after (.block 0 (.loop code546L0)) [3]))
  (.seq (R [2] [v 29 3,v 2 29])
  (.live [2] (.ret))))):=rfl
 rw [j];have O:enter 0 [AVal.ptr (some (I.s,0))]=[(0,.val (.ptr (some (I.s,0))))]:=rfl;have Q:(⟨H,b,w⟩:Heap).size=H.length:=rfl;rw [O];simp only [Q]
 have y:∀ x M w',funcEnd code546 ⟨H,b,w⟩ (.ret,⟨[(2,.val x)],⟨M,b,w'⟩⟩)=some (dj ⟨H,b,w⟩ x ⟨M,b,w'⟩):=fun x M w'=>by simp [-dj,funcEnd,code546,resultsL,result1,sget,tupled]
 refine CodeD.seq nofun (CodeD.run d hm (e:=.normal) (st':=⟨[(0,.val (.ptr (some (I.s,0))))],⟨H,b,H.length⟩⟩) (fun k'=>by simp (disch:=omega) []) ?_);refine CodeD.seq nofun (CodeD.run d hm (e:=.normal) (st':=⟨[(0,.val (.ptr (some (I.s,0)))),(3,.val (.slice none 0 (some 0)))],⟨H,b,H.length⟩⟩) (fun k'=>by simp (disch:=omega) []) ?_);refine CodeD.seq nofun (CodeD.seq nofun (CodeD.after (CodeD.regionX d hm ?_)));refine OpsD.run (l:=[v 8 0]) (r:=[o 9 (.callg 480 [t 8,.const (.str [])]),o 10 (.len .sl (t 9)),o 11 (.val (n 0))]) (s1:=[(8,.val (.ptr (some (I.s,0)))),(0,.val (.ptr (some (I.s,0)))),(3,.val (.slice none 0 (some 0)))]) (h1:=⟨H,b,H.length⟩) (fun k'=>by simp (disch:=omega) []) ?_;refine OpsD.call (g:=480) (xs:=[t 8,.const (.str [])]) rfl rfl rfl (d480 hC h hx J hb [] H.length) fun vv a6 U=>?_
 obtain ⟨a0,⟨hp,hs⟩,hc⟩:=U;rw [beg_nil] at hp;obtain rfl:=hh.keys hx hp hs;rcases hc with ⟨D,rfl,rfl⟩ | ⟨R,e1,e2,rfl,rfl⟩
 ·have V:l=[]:=List.map_eq_nil_iff.1 D;refine OpsD.run (l:=[o 10 (.len .sl (t 9)),o 11 (.val (n 0))]) (r:=[]) (s1:=[(11,.val (.int .i64 0)),(10,.val (.int .i64 0)),(9,.val (.slice none 0 (some 0))),(8,.val (.ptr (some (I.s,0)))),(0,.val (.ptr (some (I.s,0)))),(3,.val (.slice none 0 (some 0)))]) (h1:=⟨H,b,H.length⟩) (fun k'=>by simp (disch:=omega) []) (OpsD.done ?_);simp only [];have C:keepK [0,3,9,10,11] [(11,Slot.val (.int .i64 0)),(10,.val (.int .i64 0)),(9,.val (.slice none 0 (some 0))),(8,.val (.ptr (some (I.s,0)))),(0,.val (.ptr (some (I.s,0)))),(3,.val (.slice none 0 (some 0)))]=[(0,.val (.ptr (some (I.s,0)))),(3,.val (.slice none 0 (some 0))),(9,.val (.slice none 0 (some 0))),(10,.val (.int .i64 0)),(11,.val (.int .i64 0))]:=by simp
  rw [C];refine CodeD.run d hm (e:=.normal) (st':=⟨[(3,.val (.slice none 0 (some 0)))],⟨H,b,H.length⟩⟩) (fun k'=>by simp (disch:=omega) [b9,code546L0]) ?_;refine CodeD.run d hm (e:=.ret) (st':=⟨[(2,.val (.slice none 0 (some 0)))],⟨H,b,H.length⟩⟩) (fun k'=>by simp (disch:=omega) []) ?_;rw [y,sr (aj _)];exact ⟨_,_,rfl,.inl ⟨V,rfl,rfl⟩⟩
 ·rw [a7] at e1 e2 ⊢;have hq:=gc H [strsO R];have W:StA (H++[strsO R]) I F K:=h.app _;have aa:(H++[strsO R]).length=H.length+1:=by simp
  obtain ⟨P',x',w',i1,i2,i3,i4⟩:=l546 (b:=b) W hh hl hn (by omega) hq e1 l.length 0 H.length (H++[strsO R]) (.slice none 0 (some 0)) (by omega) (Pre.refl _) (.inl ⟨rfl,rfl⟩);simp only [bf] at i4;refine OpsD.run (l:=[o 10 (.len .sl (t 9)),o 11 (.val (n 0))]) (r:=[]) (s1:=[(11,.val (.int .i64 0)),(10,.val (.int .i64 l.length)),(9,.val (.slice (some (H.length,0)) l.length none)),(8,.val (.ptr (some (I.s,0)))),(0,.val (.ptr (some (I.s,0)))),(3,.val (.slice none 0 (some 0)))]) (h1:=⟨H++[strsO R],b,H.length⟩) (fun k'=>by simp (disch:=omega) []) (OpsD.done ?_);simp only []
  have C:keepK [0,3,9,10,11] [(11,Slot.val (.int .i64 0)),(10,.val (.int .i64 l.length)),(9,.val (.slice (some (H.length,0)) l.length none)),(8,.val (.ptr (some (I.s,0)))),(0,.val (.ptr (some (I.s,0)))),(3,.val (.slice none 0 (some 0)))]=[(0,.val (.ptr (some (I.s,0)))),(3,.val (.slice none 0 (some 0))),(9,.val (.slice (some (H.length,0)) l.length none)),(10,.val (.int .i64 l.length)),(11,.val (.int .i64 0))]:=by simp
  rw [C];refine CodeD.run d hm (e:=.normal) (st':=⟨[(3,.val x')],⟨P',b,w'⟩⟩) (fun k'=>by simp (disch:=omega) [i4]) ?_;rcases i2 with ⟨X,rfl⟩ | ⟨X,r,hr,rfl,G⟩
  ·refine CodeD.run d hm (e:=.ret) (st':=⟨[(2,.val (.slice none 0 (some 0)))],⟨P',b,w'⟩⟩) (fun k'=>by simp (disch:=omega) []) ?_;rw [y,sr (by omega)];exact ⟨_,_,rfl,.inl ⟨X,rfl,rfl⟩⟩
  ·refine CodeD.run d hm (e:=.ret) (st':=⟨[(2,.val (.slice (some (r,0)) l.length none))],⟨P',b,w'⟩⟩) (fun k'=>by simp (disch:=omega) []) ?_;rw [y,mw G (ids_pair l) (ren_pair l) (by omega) (by omega)];exact ⟨_,_,rfl,.inr ⟨X,rfl,rfl⟩⟩
end
end
end Go.Abs.AbsBrm

namespace Go.Abs.AbsBrm
open Go.Abs.AbsBlb hiding T
open Go.Abs.Short
def keyN (j:Nat):Bs:=[UInt8.ofNat (97+j)]
abbrev keysR:List Bs:=(List.range 10).map keyN
def zerosB (m:Nat):Bs:=List.replicate m 0
def g554:ACode:=.after (.region [⟨true,[0,1,3,7,15,0,0,96,224,480,992,0,2048,8160,16352],[v 63 16,o 64 (.bin .add (n 97) (t 63)),o 65 (.conv (.int .u8) (t 64)),o 66 (.mkslice 1 1 [.int .u8 0] [(0,1,t 65)]),o 67 (.conv .string (t 66)),v 68 2,v 69 16,o 70 (.iaddr 1 (t 68) (t 69)),o 71 (.load none (t 70)),o 72 (.bin .rem (t 71) (.const (.int .u8 40))),o 73 (.conv (.int .i64) (t 72)),v 74 15,o 75 (.bin .rem (t 74) (n 3)),o 76 (.bin .add (t 73) (t 75)),o 77 (.make 1 1 [.int .u8 0] (t 76) (t 76))]⟩,⟨false,[],[o 78 (.build [.bool false,.str [],.slice none 0 (some 0)] [(1,1,t 67),(2,1,t 77)]),o 79 (.mkslice 3 1 [.bool false,.str [],.slice none 0 (some 0)] [(0,3,t 78)]),v 17 79]⟩]) [2,9,12,14,17,52,53]
def h554:ACode:=.seq (.after (.region [⟨true,[],[v 80 17,o 81 (.faddr (t 9) 1),o 82 (.load none (t 81))]⟩,⟨false,[],[o 83 (.callg 550 [t 80,t 82]),o 84 (.bin .neq (t 83) (n 0)),v 85 84]⟩,⟨true,[],[g 86 85 false (.val (t 14)),g 87 85 false (.callg 551 [t 86]),g 88 85 false (.val (t 17)),g 89 85 false (.callg 552 [t 88]),g 90 85 false (.bin .add (t 87) (t 89)),g 91 85 false (.load (some 3) (t 9)),g 92 85 false (.callg 553 [t 91])]⟩,⟨false,[],[g 93 85 false (.bin .gtr (t 90) (t 92)),o 94 (.pick (t 85) Y (t 93))]⟩]) [2,9,12,14,17,52,53,94])
 (.after (.cond (t 94) (.live [2,9,12,14,52,53] (.exit 1)) (.skip)) [2,9,12,14,17,52,53])
def i554:ACode:=.seq (.seq (R [2,9,12,14,17,52,53,98] [v 95 12,v 96 17,o 97 (.callg 549 [t 95,t 96]),o 98 (.bin .neq (t 97) (n 0))])
 (.after (.cond (t 98) (.seq (R [8] [o 8 (.val F)])
 (.live [8] (.ret))) (.skip)) [2,9,12,14,17,52,53]))
 (R [2,9,12,14,52,53] [v 99 14,v 100 17,o 101 (.callg 548 [t 99,t 100]),v 14 101])
theorem body554L:code554L0 = .live [2,9,12,14,52,53] (.seq (R [2,9,12,14,52,53,54] [o 54 (.bin .lss (t 53) (t 52))])
 (.seq (.after (.cond (t 54) (.skip) (.live [12,14] (.exit 0))) [2,9,12,14,52,53])
 (.seq (.after (.block 1 (.seq (R [2,9,12,14,15,52,53] [v 55 53,v 15 55])
 (.seq (.seq (R [2,9,12,14,15,52,53,58] [v 56 2,o 57 (.len .sl (t 56)),o 58 (.bin .eql (t 57) (n 0))])
 (.after (.cond (t 58) (.seq (R [8] [o 8 (.val Y)])
 (.live [8] (.ret))) (.skip)) [2,9,12,14,15,52,53]))
 (.seq (R [2,9,12,14,15,16,52,53] [v 59 15,v 60 2,o 61 (.len .sl (t 60)),o 62 (.bin .rem (t 59) (t 61)),v 16 62])
 (.seq g554
 (.seq h554
 i554)))))) [2,9,12,14,52,53])
 (R [2,9,12,14,52,53] [o 102 (.bin .add (t 53) (n 1)),v 53 102])))):=rfl
section
variable {P:List AObj} {b w p o k i m N:Nat} {B:Bs} {c:Option Nat} {gv:List AVal} {sp hv:AVal}
def chO (P:List AObj) (k m:Nat):List AObj:=[.cells 1 [.int .u8 ((97:Int)+k)],.cells 1 ((zerosB m).map u8V),.cells 3 [.bool false,.str (keyN k),.slice (some (P.length+1,0)) m (some m)]]
theorem g554_run (hS:SlB P p o B.length B) (a6:k < B.length) (hB:B.length≤10) (hi:i < 100) {x:UInt8} (hx:B[k]? = some x) (hm:m=x.toNat % 40+i % 3) (w:Nat) {β:Type} (k':AExit→St→Option β) :
  xK T g554 ⟨[(2,.val (.slice (some (p,o)) B.length c)),(9,.var gv),(12,.val sp),(14,.val hv),(15,.val (.int .i64 i)),(16,.val (.int .i64 k)),(52,.val (.int .i64 N)),(53,.val (.int .i64 i))],⟨P,b,w⟩⟩ (k:=⟨k'⟩) =
   k' .normal ⟨[(2,.val (.slice (some (p,o)) B.length c)),(9,.var gv),(12,.val sp),(14,.val hv),(17,.val (.slice (some (P.length+2,0)) 1 (some 1))),(52,.val (.int .i64 N)),(53,.val (.int .i64 i))],⟨P++chO P k m,b,w⟩⟩:=by
 obtain ⟨X,C,hX⟩:=hS.get hx;have d:=ah C;have aa:=ah hX;have D:x.toNat < 256:=x.toNat_lt
 have hw:IntKind.u8.wrap (97+(k:Int))=97+k:=by unfold IntKind.wrap;simp [IntKind.signed,IntKind.bits];omega
 have G:bytesOf [.int .u8 (97+(k:Int))]=some (keyN k):=by
  have:=l7 (keyN k)
  have e:(keyN k).map u8V=[.int .u8 (97+(k:Int))]:=by
   show [AVal.int .u8 ((UInt8.ofNat (97+k)).toNat:Int)]=_
   have e2:(UInt8.ofNat (97+k)).toNat=97+k:=by rw [UInt8.toNat_ofNat']; omega
   rw [e2,Int.natCast_add]; rfl
  rw [e] at this;exact this
 have J:(x.toNat:Int).tmod 40=((x.toNat % 40:Nat):Int):=by rw [Int.tmod_eq_emod_of_nonneg (by omega)]; rfl
 have h3:(i:Int).tmod 3=((i % 3:Nat):Int):=by rw [Int.tmod_eq_emod_of_nonneg (by omega)]; rfl
 have O:((x.toNat % 40:Nat):Int)+((i % 3:Nat):Int)=(m:Int):=by omega
 have ac:m≤50:=by omega
 have Q:IntKind.u8.wrap ((x.toNat % 40:Nat):Int)=((x.toNat % 40:Nat):Int):=by unfold IntKind.wrap;simp [IntKind.signed,IntKind.bits];omega
 have U:IntKind.i64.wrap ((x.toNat % 40:Nat):Int)=((x.toNat % 40:Nat):Int):=di (by omega);have hz:(zerosB m).map u8V=List.replicate m (AVal.int .u8 0):=by unfold zerosB; rw [List.map_replicate]; rfl
 have V:=gc P [AObj.cells 1 [.int .u8 ((97:Int)+k)]];have W:∀ y,(P++[y])[p]? = some (.cells 1 X):=fun y=>by rw [ag d]; exact C
 unfold chO;generalize (x.toNat % 40:Nat)=y at *;generalize (i % 3:Nat)=z at *;rw [hz]
 have j:AVal.idsL (List.replicate m (AVal.int .u8 0))=[]:=idsL_none fun v hv=>by rw [(List.mem_replicate.1 hv).2]; simp [AVal.ids]
 have a0:(m:Int).toNat=m:=Int.toNat_natCast m;simp (disch:=omega) [-getElem?_pos,-getElem?_neg,-List.all_eq_true,qZ,qS,nltT,nltF,iltT,iltF,ileT,nleT,di,g554,-sget,zq,vj,zr,-ew,lq,lr,jf,ex,C,hX,hw,G,J,h3,O,Q,U,V,a0,d,W,j]
end
end Go.Abs.AbsBrm

namespace Go.Abs.AbsBrm
open Go.Abs.AbsBlb hiding T
open Go.Abs.AbsBlo (CodeD.run OpsD.run HoldP uv blobK Calm cntO room_go po commitx pp Told qm so_few FitZ Steps)
open Go.Abs.Short
theorem qr (m:Nat):(zerosB m).length=m:=bq
section
variable {M:List AObj} {b p q k m n z lim i N:Nat} {c:Option Nat} {av sp:AVal} {l:List (Bs × Bs)} {a:Option (Nat × Nat)} {lc:Option Nat}
section
attribute [-simp] getElem?_pos getElem?_neg List.all_eq_true
attribute [local simp] qZ qS nltT nltF iltT iltF ileT nleT di
theorem h554_run (U:M[p]? = some (.cells 3 [.bool false,.str (keyN k),.slice (some (q,0)) m c])) (V:q < M.length) (hm:m≤100) (X:3≤n∧n≤64) (W:12≤z∧z≤65536) (hR:Row M 2 pairC l a) (a0:l.length≤100) (hl:∀ p ∈ l,p.1.length≤64∧p.2.length≤4096) (a6:liveP l≤1000000) (w:Nat) :
  ((33+m≤(z - 12) / 2∧liveP l+(33+m)≤(n - 2)*(z - 12) / 4)∧∀ {β:Type} (k':AExit→St→Option β),xK T h554 ⟨[(2,.val av),(9,.var [.int .i64 n,.int .i64 z,.int .i64 lim]),(12,.val sp),(14,.val (.slice a l.length lc)),(17,.val (.slice (some (p,0)) 1 (some 1))),(52,.val (.int .i64 N)),(53,.val (.int .i64 i))],⟨M,b,w⟩⟩ (k:=⟨k'⟩) =
   k' .normal ⟨[(2,.val av),(9,.var [.int .i64 n,.int .i64 z,.int .i64 lim]),(12,.val sp),(14,.val (.slice a l.length lc)),(17,.val (.slice (some (p,0)) 1 (some 1))),(52,.val (.int .i64 N)),(53,.val (.int .i64 i))],⟨M,b,w⟩⟩) ∨
  (∀ {β:Type} (k':AExit→St→Option β),xK T h554 ⟨[(2,.val av),(9,.var [.int .i64 n,.int .i64 z,.int .i64 lim]),(12,.val sp),(14,.val (.slice a l.length lc)),(17,.val (.slice (some (p,0)) 1 (some 1))),(52,.val (.int .i64 N)),(53,.val (.int .i64 i))],⟨M,b,w⟩⟩ (k:=⟨k'⟩) =
   k' (.exit 1) ⟨[(2,.val av),(9,.var [.int .i64 n,.int .i64 z,.int .i64 lim]),(12,.val sp),(14,.val (.slice a l.length lc)),(52,.val (.int .i64 N)),(53,.val (.int .i64 i))],⟨M,b,w⟩⟩):=by
 have D:(keyN k).length=1:=rfl;have up:=fun {g aZ h x} (e:xCall AbsBlb.T g aZ h=some x)=>cf sub (cf AbsBlo.sub e)
 have d:=fun w=>up (s550 (b:=b) (w:=w) (lc:=some 1) U V (by rw [D]; decide) (by omega) W)
 have j:=fun w=>up (s552 (b:=b) (w:=w) (lc:=some 1) U V (by rw [D]; decide) (by omega))
 have y:=fun w=>up (s551 (b:=b) (w:=w) (c:=lc) hR (by omega) hl)
 have C:=fun w=>up (s553 (H:=M) (b:=b) (w:=w) (lim:=lim) X W)
 rw [D] at d j;have G:32+1+m=33+m:=by omega
 rw [G] at d j
 have J:(n - 2)*(z - 12) / 4≤1100000:=by have:(n - 2)*(z - 12)≤62*65536:=Nat.mul_le_mul (by omega) (by omega);omega
 have hs:33+m≤200:=by omega
 generalize (n - 2)*(z - 12) / 4=O at *;generalize 33+m=s at *;generalize liveP l=Q at *;by_cases c1:s≤(z - 12) / 2
 ·rw [if_pos c1] at d;by_cases c2:Q+s≤O
  ·have c3:¬ (O:Int) < (Q:Int)+s:=by omega
   refine .inl ⟨⟨c1,c2⟩,fun k'=>?_⟩;simp (disch:=omega) [h554,d,y,j,C,c3]
  ·have c3:(O:Int) < (Q:Int)+s:=by omega
   refine .inr fun k'=>?_
   simp (disch:=omega) [h554,d,y,j,C,c3]
 ·rw [if_neg c1] at d;refine .inr fun k'=>?_
  simp (disch:=omega) [h554,d]
end
end
end Go.Abs.AbsBrm

namespace Go.Abs.AbsBrm
open Go.Abs.AbsBlb hiding T
open Go.Abs.AbsBlo (CodeD.run OpsD.run HoldP uv td qt blobK Calm cntO room_go po commitx pp Told qm so_few FitZ Steps)
open Go.Abs.Short
theorem uu:∀ k ∈ keysR,1≤k.length∧k.length≤64:=by decide
theorem small {P:List AObj} {I:SI} {F:Fl} {K:StU} {l:List (Bs × Bs)} (h:SO keysR P I F K) (j:HoldP K l):l.length≤10∧(∀ p ∈ l,p.1.length≤64∧p.2.length≤4096)∧liveP l≤1000000:=by
 have C:(K.ix.map (·.1)).Perm (l.map (·.1)):=(List.perm_ext_iff_of_nodup h.v.ix.k j.1.nodup).2 fun k=>by rw [qt,td,j.2 k]
 have y:l.length≤10:=by have h1:=C.length_eq;rw [a7,a7] at h1;have h2:=so_few h;have G:keysR.length=10:=rfl;omega
 have hb:∀ p ∈ l,p.1.length≤64∧p.2.length≤4096:=fun p D=>by have J:=j.2 p.1;rw [uv j.1 D] at J;obtain ⟨e,U,d⟩:=ae.1 (show (findK p.1 K.ix).map (fun x=>x.2.blob)=some p.2 from J);obtain ⟨en,V,W,X⟩:=mr U;obtain ⟨-,-,O,Q⟩:=h.v.en en (br V);rw [W] at O;have d:e.2.blob=p.2:=d;rw [X,d] at Q;exact ⟨(uu _ O).2,Q⟩
 refine ⟨y,hb,?_⟩
 have:∀ l:List (Bs × Bs),(∀ p ∈ l,p.1.length≤64∧p.2.length≤4096)→liveP l≤5000*l.length:=by
  intro l;induction l with
  | nil=>intro _; exact aj _
  | cons a r ih =>
   intro y;have h1:=y a (a8 ..);have h2:=ih fun p C=>y p (bd _ C)
   have G:liveP (a :: r)=32+a.1.length+a.2.length+liveP r:=rfl;rw [G,cq]; omega
 have:=this l hb;omega
structure LJ (I:SI) (F0:Fl) (B:Bs) (av:AVal) (i:Nat) (P:List AObj) (F1:Fl) (K1:StU) (l:List (Bs × Bs)) (a:Option (Nat × Nat)):Prop where
 so:SO keysR P I F1 K1
 fe:FlE F0 F1
 cm:AbsBlo.Calm (6*i) K1
 cn:1≤cntO F0.lim K1
 ln:K1.secs.length=F0.n
 ho:HoldP K1 l
 row:Row P 2 pairC l a
 ra:∀ p o,a=some (p,o)→I.hi < p∧p < P.length
 bv:BlobV P av B
def LawJ (I:SI) (F0:Fl) (B:Bs) (av:AVal) (gv:List AVal) (b N k:Nat) (st:St):Prop :=
 ∃ i P F1 K1 l a lc w1,i≤N∧k=N - i∧LJ I F0 B av i P F1 K1 l a∧b≤w1∧st=⟨[(2,.val av),(9,.var gv),(12,.val (.ptr (some (I.s,0)))),(14,.val (.slice a l.length lc)),(52,.val (.int .i64 N)),(53,.val (.int .i64 (i:Nat)))],⟨P,b,w1⟩⟩
def LawQ (I:SI) (F0:Fl) (B:Bs) (av:AVal) (b:Nat) (e:AExit) (st:St):Prop :=
 (e = .exit 0∧∃ i P F1 K1 l a lc w1,LJ I F0 B av i P F1 K1 l a∧b≤w1∧st=⟨[(12,.val (.ptr (some (I.s,0)))),(14,.val (.slice a l.length lc))],⟨P,b,w1⟩⟩) ∨
 (e = .ret∧∃ P w1,b≤w1∧st=⟨[(8,.val (.bool true))],⟨P,b,w1⟩⟩)
structure CodesB (E:Env):Prop where
 t:AgreesX E T
 m:E.P.follows .mixedOrders=true
 a617:IsCode E 617 AbsBlo.code617
 a599:IsCode E 599 AbsBlo.code599
 a580:IsCode E 580 AbsBlo.code580
 a549:IsCode E 549 AbsBlo.code549
section
variable {E:Env} {b N:Nat} {I:SI} {F0:Fl} {B:Bs}
section
attribute [-simp] getElem?_pos getElem?_neg List.all_eq_true
attribute [local simp] qZ qS nltT nltF iltT iltF ileT nleT di
theorem inc554 (d:CodesB E) {P:List AObj} {av hv:AVal} {gv:List AVal} {i w1:Nat} (hi:i < 100) {Q:AExit→St→Prop} (e:Q .normal ⟨[(2,.val av),(9,.var gv),(12,.val (.ptr (some (I.s,0)))),(14,.val hv),(52,.val (.int .i64 N)),(53,.val (.int .i64 (i+1:Nat)))],⟨P,b,w1⟩⟩) :
  CodeD E (R [2,9,12,14,52,53] [o 102 (.bin .add (t 53) (n 1)),v 53 102]) ⟨[(2,.val av),(9,.var gv),(12,.val (.ptr (some (I.s,0)))),(14,.val hv),(52,.val (.int .i64 N)),(53,.val (.int .i64 (i:Nat)))],⟨P,b,w1⟩⟩ Q :=
 CodeD.run d.t d.m (fun k'=>by
  have j:((i+1:Nat):Int)=(i:Int)+1:=by omega
  rw [j];simp (disch:=omega) []) e
theorem law_loop (W:CodesB E) (hb:I.lo b) {nn z lim:Nat} (G:F0.n=nn∧F0.z=z∧F0.lim=lim) (f7:3≤nn∧nn≤7) (hz:128≤z∧z≤65536) (X:lim=1048576) {J:Option (Nat × Nat)} {c0:Option Nat} (d6:∀ p o,J=some (p,o)→p < b) (hB:B.length≤10) (hN:N≤60) {k:Nat} {st:St} (h0:LawJ I F0 B (.slice J B.length c0) [.int .i64 nn,.int .i64 z,.int .i64 lim] b N k st) :
  CodeD E (.loop code554L0) st (LawQ I F0 B (.slice J B.length c0) b):=by
 have D:=W.t;have hm:=W.m;have d8:AgreesX E AbsBlo.T:=D.sub sub;refine CodeD.loop (LawJ I F0 B (.slice J B.length c0) [.int .i64 nn,.int .i64 z,.int .i64 lim] b N) (fun k st hJ=>?_) k st h0;obtain ⟨i,P,F1,K1,l,a,lc,w1,hi,rfl,j,aa,rfl⟩:=hJ;rw [body554L];refine CodeD.live ?_;generalize d9:[AVal.int .i64 nn,.int .i64 z,.int .i64 lim]=gv;have dd:keepK [2,9,12,14,52,53] [(2,Slot.val (.slice J B.length c0)),(9,.var gv),(12,.val (.ptr (some (I.s,0)))),(14,.val (.slice a l.length lc)),(52,.val (.int .i64 N)),(53,.val (.int .i64 (i:Nat)))]=[(2,.val (.slice J B.length c0)),(9,.var gv),(12,.val (.ptr (some (I.s,0)))),(14,.val (.slice a l.length lc)),(52,.val (.int .i64 N)),(53,.val (.int .i64 (i:Nat)))]:=by simp
 simp only [dd];have f2:=j.so.a.hi;have f3:=ah j.so.a.fl.f;have hI:I.s≤I.hi∧I.sa≤I.hi∧I.m≤I.hi∧I.fi.fb≤I.hi∧I.fi.fw≤I.hi:=by unfold SI.hi; omega
 obtain ⟨b1,b2,b3,b4,b5⟩:=id hb;have f8:b≤P.length:=by omega
 by_cases c1:i < N
 ·have ci:(i:Int) < N:=by omega
  refine CodeD.seq nofun (CodeD.run (e:=.normal) (st':=⟨[(2,.val (.slice J B.length c0)),(9,.var gv),(12,.val (.ptr (some (I.s,0)))),(14,.val (.slice a l.length lc)),(52,.val (.int .i64 N)),(53,.val (.int .i64 (i:Nat))),(54,.val (.bool true))],⟨P,b,w1⟩⟩) D hm (fun k'=>by simp (disch:=omega) [ci]) ?_);refine CodeD.seq nofun (CodeD.run (e:=.normal) (st':=⟨[(2,.val (.slice J B.length c0)),(9,.var gv),(12,.val (.ptr (some (I.s,0)))),(14,.val (.slice a l.length lc)),(52,.val (.int .i64 N)),(53,.val (.int .i64 (i:Nat)))],⟨P,b,w1⟩⟩) D hm (fun k'=>by simp (disch:=omega) []) ?_);refine CodeD.seq nofun (CodeD.after (CodeD.block ?_))
  refine CodeD.seq nofun (CodeD.run (e:=.normal) (st':=⟨[(2,.val (.slice J B.length c0)),(9,.var gv),(12,.val (.ptr (some (I.s,0)))),(14,.val (.slice a l.length lc)),(15,.val (.int .i64 (i:Nat))),(52,.val (.int .i64 N)),(53,.val (.int .i64 (i:Nat)))],⟨P,b,w1⟩⟩) D hm (fun k'=>by simp (disch:=omega) []) ?_);by_cases cB:B.length=0
  ·refine CodeD.seq nofun (CodeD.run (e:=.ret) (st':=⟨[(8,.val (.bool true))],⟨P,b,w1⟩⟩) D hm (fun k'=>by simp (disch:=omega) [cB]) ?_);exact .inr ⟨rfl,P,w1,aa,rfl⟩
  ·have ay:¬ (B.length:Int)=0:=by omega
   refine CodeD.seq nofun (CodeD.run (e:=.normal) (st':=⟨[(2,.val (.slice J B.length c0)),(9,.var gv),(12,.val (.ptr (some (I.s,0)))),(14,.val (.slice a l.length lc)),(15,.val (.int .i64 (i:Nat))),(52,.val (.int .i64 N)),(53,.val (.int .i64 (i:Nat)))],⟨P,b,w1⟩⟩) D hm (fun k'=>by simp (disch:=omega) [cB,ay]) ?_);have b6:(i:Int).tmod (B.length:Int)=((i % B.length:Nat):Int):=by rw [Int.tmod_eq_emod_of_nonneg (by omega)]; rfl
   have b7:i % B.length < B.length:=Nat.mod_lt _ (by omega);generalize f4:i % B.length=d at *;have dl:IntKind.i64.wrap (d:Int)=d:=di (by omega);refine CodeD.seq nofun (CodeD.run (e:=.normal) (st':=⟨[(2,.val (.slice J B.length c0)),(9,.var gv),(12,.val (.ptr (some (I.s,0)))),(14,.val (.slice a l.length lc)),(15,.val (.int .i64 (i:Nat))),(16,.val (.int .i64 d)),(52,.val (.int .i64 N)),(53,.val (.int .i64 (i:Nat)))],⟨P,b,w1⟩⟩) D hm (fun k'=>by simp (disch:=omega) [b6,cB,ay,dl]) ?_)
   obtain ⟨y,C,hS,e0⟩:∃ y C,SlB P y C B.length B∧J=some (y,C):=by
    obtain ⟨a',c',e1,-,e3⟩:=j.bv;simp only [AVal.slice.injEq] at e1;rcases e3 with e3 | ⟨p,o,e4,e5,-⟩
    ·exact absurd (by rw [e3]; rfl) cB
    ·exact ⟨p,o,e5,by rw [e1.1,e4]⟩
   subst e0;obtain ⟨x,hx⟩:∃ x,B[d]? = some x:=⟨_,ai b7⟩;have e6:x.toNat < 256:=x.toNat_lt;obtain ⟨m,e7⟩:∃ m,m=x.toNat % 40+i % 3:=⟨_,rfl⟩;have f5:m≤50:=by omega
   refine CodeD.seq nofun (CodeD.run (e:=.normal) D hm (fun k'=>g554_run (c:=c0) (N:=N) hS b7 hB (by omega) hx e7 w1 k') ?_);have bm:=qm j.so (chO P d m);have f9:(P++chO P d m).length=P.length+3:=by simp [chO]
   have bx:(P++chO P d m)[P.length+1]? = some (.cells 1 ((zerosB m).map u8V)):=jv P _ 1;have ac:(P++chO P d m)[P.length+2]? = some (.cells 3 [.bool false,.str (keyN d),.slice (some (P.length+1,0)) m (some m)]):=jv P _ 2;have ad:Row (P++chO P d m) 2 pairC l a:=j.row.ext _;have c4:BlobV (P++chO P d m) (.slice (some (y,C)) B.length c0) B:=j.bv.mono (by omega) fun p o n c e x hx=>by rw [ag (ah hx)]; exact hx
   generalize P++chO P d m=M at *;obtain ⟨s1,s2,s3⟩:=small j.so j.ho;subst d9;rcases h554_run (b:=b) (k:=d) (m:=m) (n:=nn) (z:=z) (lim:=lim) (i:=i) (N:=N) (c:=some m) (av:=.slice (some (y,C)) B.length c0) (sp:=.ptr (some (I.s,0))) (lc:=lc) ac (by omega) (by omega) ⟨by omega,by omega⟩ ⟨by omega,by omega⟩ ad (by omega) s2 s3 w1 with ⟨⟨g1,g2⟩,Q⟩ | Q
   ·refine CodeD.seq nofun (CodeD.run (e:=.normal) D hm (fun k'=>Q k') ?_);have O:F1.n=nn∧F1.z=z∧F1.lim=lim:=⟨j.fe.n.trans G.1,j.fe.z.trans G.2.1,j.fe.l.trans G.2.2⟩;have U:keyN d ∈ keysR:=bt.2 ⟨d,dc.2 (by omega),rfl⟩;have e8:K1.secs.length=nn:=j.ln.trans G.1;have al:=j.ho.live j.so.v.ix
    have c5:4*(AbsBlo.liveT K1.ix+(33+m))≤(K1.secs.length - 2)*(F1.z - 12):=by rw [al,e8,O.2.1];omega
    have cp:1≤cntO F1.lim K1:=by rw [O.2.2,← G.2.2]; exact j.cn
    have cv:3≤K1.secs.length∧K1.secs.length≤7:=by omega
    have a6:40≤F1.z:=by omega
    have an:33+m≤(F1.z - 12) / 2:=by rw [O.2.1]; exact g1
    have cx:6*i+20 < F1.lim:=by rw [O.2.2,X]; omega
    have e9:AbsBlo.RoomGo keysR F1 (33+m) K1:=room_go j.so.v.ix cx (by rw [O.2.2,X]; decide) cv a6 an c5 j.cm cp
    have ea:∀ c ∈ [(⟨false,keyN d,zerosB m,.slice (some (P.length+1,0)) m (some m)⟩:ChU)],c.fine M∧c.key ∈ keysR:=fun c hc=>by rw [bk] at hc;subst hc;refine ⟨⟨⟨some (P.length+1,0),some m,by rw [qr],fun p o e=>by cases e; omega,.inr ⟨P.length+1,0,rfl,SlB.whole bx rfl,by rw [qr]; exact aj _⟩⟩,⟨_,_,_,_,rfl⟩,(uu _ U).1,(uu _ U).2,by rw [qr]; omega⟩,U⟩
    have eb:Row M 3 ChU.cells [(⟨false,keyN d,zerosB m,.slice (some (P.length+1,0)) m (some m)⟩:ChU)] (some (P.length+2,0)):=Row.mk0 (fun _=>rfl) (by rw [ac]; rfl)
    have cy:¬ ([(⟨false,keyN d,zerosB m,.slice (some (P.length+1,0)) m (some m)⟩:ChU)].foldl (fun S c=>addK S c.key) []).length < [(⟨false,keyN d,zerosB m,.slice (some (P.length+1,0)) m (some m)⟩:ChU)].length:=by
     show ¬ (addK [] (keyN d)).length < 1
     unfold addK;simp
    have ec:33+m=sizes ([(⟨false,keyN d,zerosB m,.slice (some (P.length+1,0)) m (some m)⟩:ChU)].map ChU.toR)+16:=by
     show 33+m=16+(keyN d).length+(zerosB m).length+0+16
     rw [qr];have:(keyN d).length=1:=rfl;omega
    have ee:=commitx (lc:=some 1) d8 hm W.a617 W.a599 W.a580 W.a549 bm uu (by decide) hb (by omega) eb (List.cons_ne_nil _ _) (by show 1≤16; decide) ea cy ec an e9 w1;refine CodeD.seq nofun (CodeD.seq nofun (CodeD.after (CodeD.regionX D hm ?_)));refine OpsD.run (l:=[v 95 12,v 96 17]) (r:=[o 97 (.callg 549 [t 95,t 96]),o 98 (.bin .neq (t 97) (n 0))]) (s1:=[(96,.val (.slice (some (P.length+2,0)) 1 (some 1))),(95,.val (.ptr (some (I.s,0)))),(2,.val (.slice (some (y,C)) B.length c0)),(9,.var [.int .i64 nn,.int .i64 z,.int .i64 lim]),(12,.val (.ptr (some (I.s,0)))),(14,.val (.slice a l.length lc)),(17,.val (.slice (some (P.length+2,0)) 1 (some 1))),(52,.val (.int .i64 N)),(53,.val (.int .i64 (i:Nat)))]) (h1:=⟨M,b,w1⟩) (fun k'=>by simp (disch:=omega) []) ?_;refine OpsD.call (g:=549) (xs:=[t 95,t 96]) rfl rfl rfl ee fun vv hh eh=>?_
    obtain ⟨rfl,H',F',K',w',K2,i',hd,A,rfl,r1,r2,r3,r4,r5,r6,r7,r8,r9,V⟩:=eh;refine OpsD.run (l:=[o 98 (.bin .neq (t 97) (n 0))]) (r:=[]) (s1:=[(98,.val (.bool false)),(97,.val (.int .i64 0)),(96,.val (.slice (some (P.length+2,0)) 1 (some 1))),(95,.val (.ptr (some (I.s,0)))),(2,.val (.slice (some (y,C)) B.length c0)),(9,.var [.int .i64 nn,.int .i64 z,.int .i64 lim]),(12,.val (.ptr (some (I.s,0)))),(14,.val (.slice a l.length lc)),(17,.val (.slice (some (P.length+2,0)) 1 (some 1))),(52,.val (.int .i64 N)),(53,.val (.int .i64 (i:Nat)))]) (h1:=⟨H',b,w'⟩) (fun k'=>by simp (disch:=omega) []) (OpsD.done ?_);simp only []
    have ei:keepK [2,9,12,14,17,52,53,98] [(98,Slot.val (.bool false)),(97,.val (.int .i64 0)),(96,.val (.slice (some (P.length+2,0)) 1 (some 1))),(95,.val (.ptr (some (I.s,0)))),(2,.val (.slice (some (y,C)) B.length c0)),(9,.var [.int .i64 nn,.int .i64 z,.int .i64 lim]),(12,.val (.ptr (some (I.s,0)))),(14,.val (.slice a l.length lc)),(17,.val (.slice (some (P.length+2,0)) 1 (some 1))),(52,.val (.int .i64 N)),(53,.val (.int .i64 (i:Nat)))]=[(2,.val (.slice (some (y,C)) B.length c0)),(9,.var [.int .i64 nn,.int .i64 z,.int .i64 lim]),(12,.val (.ptr (some (I.s,0)))),(14,.val (.slice a l.length lc)),(17,.val (.slice (some (P.length+2,0)) 1 (some 1))),(52,.val (.int .i64 N)),(53,.val (.int .i64 (i:Nat))),(98,.val (.bool false))]:=by simp
    rw [ei];refine CodeD.run (e:=.normal) (st':=⟨[(2,.val (.slice (some (y,C)) B.length c0)),(9,.var [.int .i64 nn,.int .i64 z,.int .i64 lim]),(12,.val (.ptr (some (I.s,0)))),(14,.val (.slice a l.length lc)),(17,.val (.slice (some (P.length+2,0)) 1 (some 1))),(52,.val (.int .i64 N)),(53,.val (.int .i64 (i:Nat)))],⟨H',b,w'⟩⟩) D hm (fun k'=>by simp (disch:=omega) []) ?_;have fd:I.hi < M.length:=by omega
    have f6:=r1.len
    have ej:Row H' 2 pairC l a:=⟨fun d1=>by obtain ⟨bb,oo,cs,e1,e2,e3⟩:=ad.at' d1;have:=(j.ra bb oo e1).1;exact ⟨bb,oo,cs,e1,r1.keep _ _ e2 (by omega) (by omega) (by omega) (by omega) (by omega),e3⟩⟩
    have d2:H'[P.length+1]? = some (.cells 1 ((zerosB m).map u8V)):=r1.keep _ _ bx (by omega) (by omega) (by omega) (by omega) (by omega)
    have d3:H'[P.length+2]? = some (.cells 3 [.bool false,.str (keyN d),.slice (some (P.length+1,0)) (zerosB m).length (some m)]):=by rw [qr];exact r1.keep _ _ ac (by omega) (by omega) (by omega) (by omega) (by omega)
    have d4:=fun w=>cf sub (cf AbsBlo.sub (s548 (b:=b) (k:=keyN d) (v:=zerosB m) (lc:=lc) (c':=some 1) ej (by omega) (by omega) d3 d2 w))
    have d1:=ins_ne (keyN d) (zerosB m) l;obtain ⟨fv,ek,em,et,fx,ey,-⟩:=po j.so.v.ix cx cv a6 an c5 j.cm cp i' K2 r6;obtain ⟨ao,ez,fy,f0⟩:=pp (K:=K2) (hd:=hd) (A:=A)
    obtain ⟨xA,hA⟩:∃ xA,A=[(⟨1,1,keyN d,zerosB m,0⟩,xA)]:=by
     cases A with
     | nil=>simp at r9
     | cons p A =>
      cases A with
      | nil =>
       refine ⟨p.2,?_⟩
       have:p.1=⟨1,1,keyN d,zerosB m,0⟩:=by have:p.1 :: []=_:=r9;injection this
       rw [← this]
      | cons q A=>simp at r9
    have d5:=gc H' [AObj.cells 2 ((insP (keyN d) (zerosB m) false l).flatMap pairC)]
    have f1:LJ I F0 B (.slice (some (y,C)) B.length c0) (i+1) (H'++[AObj.cells 2 ((insP (keyN d) (zerosB m) false l).flatMap pairC)]) F' K' (insP (keyN d) (zerosB m) false l) (some (H'.length,0)):=by
     refine ⟨qm r2 _,j.fe.trans r3,?_,?_,?_,?_,Row.mk0 (fun _=>rfl) d5,fun p o e=>?_,?_⟩
     ·rw [V];exact (ek.of ao ez f0).le (by omega)
     ·have e1:cntO F0.lim K'=cntO F1.lim K2:=by rw [V,G.2.2,O.2.2];unfold cntO;rw [ao]
      rw [e1]; exact ey
     ·rw [V,ao,et]; exact j.ln
     ·exact j.ho.put em hA V
     ·cases e;exact ⟨by omega,by rw [au]; exact ur _⟩
     ·refine c4.mono (by rw [au]; omega) fun p o n c e x hx=>?_
      simp only [AVal.slice.injEq] at e;have:=d6 p o e.1;have h1:=r1.keep _ _ hx (by omega) (by omega) (by omega) (by omega) (by omega);rw [ag (ah h1)]; exact h1
    generalize (insP (keyN d) (zerosB m) false l).flatMap pairC=YY at *
    refine CodeD.run (e:=.normal) (st':=⟨[(2,.val (.slice (some (y,C)) B.length c0)),(9,.var [.int .i64 nn,.int .i64 z,.int .i64 lim]),(12,.val (.ptr (some (I.s,0)))),(14,.val (.slice (some (H'.length,0)) (insP (keyN d) (zerosB m) false l).length none)),(52,.val (.int .i64 N)),(53,.val (.int .i64 (i:Nat)))],⟨H'++[AObj.cells 2 YY],b,w'⟩⟩) D hm (fun k'=>by generalize (insP (keyN d) (zerosB m) false l).length=nl at *;simp (disch:=omega) [d4]) ?_
    simp only [blkE];have ax:keepK [2,9,12,14,52,53] [(2,Slot.val (.slice (some (y,C)) B.length c0)),(9,.var [.int .i64 nn,.int .i64 z,.int .i64 lim]),(12,.val (.ptr (some (I.s,0)))),(14,.val (.slice (some (H'.length,0)) (insP (keyN d) (zerosB m) false l).length none)),(52,.val (.int .i64 N)),(53,.val (.int .i64 (i:Nat)))]=[(2,.val (.slice (some (y,C)) B.length c0)),(9,.var [.int .i64 nn,.int .i64 z,.int .i64 lim]),(12,.val (.ptr (some (I.s,0)))),(14,.val (.slice (some (H'.length,0)) (insP (keyN d) (zerosB m) false l).length none)),(52,.val (.int .i64 N)),(53,.val (.int .i64 (i:Nat)))]:=by simp
    rw [ax];exact inc554 W (by omega) ⟨N - (i+1),by omega,i+1,_,F',K',_,_,none,w',by omega,rfl,f1,by omega,rfl⟩
   ·refine CodeD.seq nofun (CodeD.run (e:=.exit 1) D hm (fun k'=>Q k') ?_);simp only [xy,if_true];have ax:keepK [2,9,12,14,52,53] [(2,Slot.val (.slice (some (y,C)) B.length c0)),(9,.var [.int .i64 nn,.int .i64 z,.int .i64 lim]),(12,.val (.ptr (some (I.s,0)))),(14,.val (.slice a l.length lc)),(52,.val (.int .i64 N)),(53,.val (.int .i64 (i:Nat)))]=[(2,.val (.slice (some (y,C)) B.length c0)),(9,.var [.int .i64 nn,.int .i64 z,.int .i64 lim]),(12,.val (.ptr (some (I.s,0)))),(14,.val (.slice a l.length lc)),(52,.val (.int .i64 N)),(53,.val (.int .i64 (i:Nat)))]:=by simp
    rw [ax];refine inc554 W (by omega) ⟨N - (i+1),by omega,i+1,M,F1,K1,l,a,lc,w1,by omega,rfl,⟨bm,j.fe,j.cm.le (by omega),j.cn,j.ln,j.ho,ad,fun p o e=>?_,c4⟩,aa,rfl⟩;have:=j.ra p o e;exact ⟨this.1,by omega⟩
 ·obtain rfl:i=N:=by omega
  have ci:¬ (i:Int) < i:=by omega
  refine CodeD.seq nofun (CodeD.run (e:=.normal) (st':=⟨[(2,.val (.slice J B.length c0)),(9,.var gv),(12,.val (.ptr (some (I.s,0)))),(14,.val (.slice a l.length lc)),(52,.val (.int .i64 i)),(53,.val (.int .i64 (i:Nat))),(54,.val (.bool false))],⟨P,b,w1⟩⟩) D hm (fun k'=>by simp (disch:=omega) [ci]) ?_);refine CodeD.seq nofun (CodeD.run (e:=.exit 0) (st':=⟨[(12,.val (.ptr (some (I.s,0)))),(14,.val (.slice a l.length lc))],⟨P,b,w1⟩⟩) D hm (fun k'=>by simp (disch:=omega) []) ?_);exact .inl ⟨rfl,i,P,F1,K1,l,a,lc,w1,j,aa,rfl⟩
end
end
end Go.Abs.AbsBrm

namespace Go.Abs.AbsBrm
open Go.Abs.AbsBlb hiding T
open Go.Abs.AbsBlo (CodeD.run OpsD.run HoldP cntO qm CodesK)
open Go.Abs.Short
def a554:ACode:=.seq (R [2,3,9] [v 23 0,o 24 (.bin .rem (t 23) (.const (.int .u8 5))),o 25 (.conv (.int .i64) (t 24)),o 26 (.bin .add (n 3) (t 25)),v 27 1,o 28 (.bin .rem (t 27) (.const (.int .u8 60))),o 29 (.conv (.int .i64) (t 28)),o 30 (.bin .mul (n 4) (t 29)),o 31 (.bin .add (n 128) (t 30)),o 32 (.build [.int .i64 0,.int .i64 0,.int .i64 0] [(0,1,t 26),(1,1,t 31),(2,1,n 1048576)]),o 9 (.lalloc [.int .i64 0,.int .i64 0,.int .i64 0]),u (.store 3 (t 9) (t 32))])
 (.seq (R [2,3,9,10,11] [o 34 (.load (some 3) (t 9)),o 35 (.callg 556 [t 34]),v 33 35,o 36 (.extract (t 33) 0),o 37 (.extract (t 33) 1),v 10 36,v 11 37])
 (.seq (R [2,3,9,11,12,13] [v 39 10,o 40 (.callg 555 [t 39]),v 38 40,o 41 (.extract (t 38) 0),o 42 (.extract (t 38) 1),v 12 41,v 13 42])
 (.seq (.seq (R [2,3,9,12,48] [v 43 11,o 44 (.bin .neq (t 43) (n 0)),v 45 44,g 46 45 false (.val (t 13)),g 47 45 false (.bin .neq (t 46) (n 0)),o 48 (.pick (t 45) Y (t 47))])
 (.after (.cond (t 48) (.seq (R [8] [o 8 (.val F)])
 (.live [8] (.ret))) (.skip)) [2,3,9,12]))
 (.seq (R [2,3,9,12,14] [o 14 (.val (.const (.slice none 0 (some 0))))])
 (.seq (.seq (R [2,9,12,14,52,53] [v 49 3,o 50 (.bin .rem (t 49) (.const (.int .u8 60))),o 51 (.conv (.int .i64) (t 50)),o 52 (.bin .add (n 1) (t 51)),o 53 (.val (n 0))])
 (.after (.block 0 (.loop code554L0)) [12,14]))
 (.seq (R [8] [v 103 12,o 104 (.callg 546 [t 103]),v 105 14,o 106 (.callg 547 [t 104,t 105]),v 8 106])
 (.live [8] (.ret))))))))
theorem body554:code554.body = .seq (R [0,1,2,3] [o 8 (.val F)])
 (.seq (.seq (R [0,1,2,3,19] [o 18 (.callg 557 []),o 19 (.un .not (t 18))])
 (.after (.cond (t 19) (.seq (R [8] [o 8 (.val F)])
 (.live [8] (.ret))) (.skip)) [0,1,2,3]))
 (.seq (.seq (R [0,1,2,3,22] [v 20 2,o 21 (.len .sl (t 20)),o 22 (.bin .gtr (t 21) (n 10))])
 (.after (.cond (t 22) (.seq (R [8] [o 8 (.val Y)])
 (.live [8] (.ret))) (.skip)) [0,1,2,3]))
 a554)):=rfl
section
variable {E:Env} {H:List AObj} {b:Nat}
theorem fe554 {P:List AObj} {w w':Nat} (hw:H.length≤w'):funcEnd code554 ⟨H,b,w⟩ (.ret,⟨[(8,.val (.bool true))],⟨P,b,w'⟩⟩)=some (.bool true,⟨H,b,w⟩):=by
 have:¬ w' < H.length:=by omega
 simp [funcEnd,code554,resultsL,result1,sget,tupled,dj,Heap.size,this,AVal.under]
theorem rem_u8 {x:Nat} (n:Nat) (hx:x < 256) (d:0 < n∧n < 256):(x:Int).tmod n=((x % n:Nat):Int)∧IntKind.u8.wrap ((x % n:Nat):Int)=((x % n:Nat):Int)∧IntKind.i64.wrap ((x % n:Nat):Int)=((x % n:Nat):Int):=by have h:=Nat.mod_lt x d.1;refine ⟨by rw [Int.tmod_eq_emod_of_nonneg (by omega)]; rfl,?_,di (by omega)⟩;unfold IntKind.wrap;simp [IntKind.signed,IntKind.bits];omega
section
attribute [-simp] getElem?_pos getElem?_neg List.all_eq_true
attribute [local simp] qZ qS nltT nltF iltT iltF ileT nleT di
theorem c554 (Q:CodesB E) (hK:CodesK E) (a6:IsCode E 557 AbsBlo.code557) (aa:IsCode E 546 code546) (hF:IsCode E 554 code554) (ac:b=H.length) {x0 x1 d:Nat} (ad:x0 < 256) (an:x1 < 256) (ao:d < 256) {a:Option (Nat × Nat)} {c:Option Nat} {B:Bs} (hB:BlobV H (.slice a B.length c) B) (hv:∀ p o,a=some (p,o)→p < b) (w:Nat) :
  CallD E 554 [.int .u8 x0,.int .u8 x1,.slice a B.length c,.int .u8 d] ⟨H,b,w⟩ fun v h'=>v = .bool true∧h'=⟨H,b,w⟩:=by
 have j:=Q.t;have hm:=Q.m;have ax:AgreesX E AbsBlo.T:=j.sub sub;refine CallD.of_code hF rfl ?_;rw [body554];have ay:enter 0 [AVal.int .u8 x0,.int .u8 x1,.slice a B.length c,.int .u8 d]=[(0,.val (.int .u8 x0)),(1,.val (.int .u8 x1)),(2,.val (.slice a B.length c)),(3,.val (.int .u8 d))]:=rfl;have b5:(⟨H,b,w⟩:Heap).size=H.length:=rfl;rw [ay];simp only [b5];refine CodeD.seq nofun (CodeD.run (e:=.normal) (st':=⟨[(0,.val (.int .u8 x0)),(1,.val (.int .u8 x1)),(2,.val (.slice a B.length c)),(3,.val (.int .u8 d))],⟨H,b,H.length⟩⟩) j hm (fun k'=>by simp (disch:=omega) []) ?_);refine CodeD.seq nofun (CodeD.seq nofun (CodeD.after (CodeD.regionX j hm ?_)));refine OpsD.call (g:=557) (xs:=[]) rfl rfl rfl (AbsBlo.c557 ax hm Q.a617 Q.a599 Q.a580 Q.a549 a6 ac H.length) fun vv hh U=>?_
 obtain ⟨rfl,rfl⟩:=U;refine OpsD.run (l:=[o 19 (.un .not (t 18))]) (r:=[]) (s1:=[(19,.val (.bool false)),(18,.val (.bool true)),(0,.val (.int .u8 x0)),(1,.val (.int .u8 x1)),(2,.val (.slice a B.length c)),(3,.val (.int .u8 d))]) (h1:=⟨H,b,H.length⟩) (fun k'=>by simp (disch:=omega) []) (OpsD.done ?_);simp only [];have b6:keepK [0,1,2,3,19] [(19,Slot.val (.bool false)),(18,.val (.bool true)),(0,.val (.int .u8 x0)),(1,.val (.int .u8 x1)),(2,.val (.slice a B.length c)),(3,.val (.int .u8 d))]=[(0,.val (.int .u8 x0)),(1,.val (.int .u8 x1)),(2,.val (.slice a B.length c)),(3,.val (.int .u8 d)),(19,.val (.bool false))]:=by simp
 rw [b6];refine CodeD.run (e:=.normal) (st':=⟨[(0,.val (.int .u8 x0)),(1,.val (.int .u8 x1)),(2,.val (.slice a B.length c)),(3,.val (.int .u8 d))],⟨H,b,H.length⟩⟩) j hm (fun k'=>by simp (disch:=omega) []) ?_;by_cases hl:B.length≤10
 ·have V:¬ (10:Int) < B.length:=by omega
  refine CodeD.seq nofun (CodeD.run (e:=.normal) (st':=⟨[(0,.val (.int .u8 x0)),(1,.val (.int .u8 x1)),(2,.val (.slice a B.length c)),(3,.val (.int .u8 d))],⟨H,b,H.length⟩⟩) j hm (fun k'=>by simp (disch:=omega) [V]) ?_);unfold a554;obtain ⟨r1,r2,r3⟩:=rem_u8 5 ad (by decide);obtain ⟨r4,r5,r6⟩:=rem_u8 60 an (by decide);obtain ⟨r7,r8,r9⟩:=rem_u8 60 ao (by decide);simp only [bf] at r1 r4 r7;obtain ⟨nn,cy⟩:∃ nn,nn=3+x0 % 5:=⟨_,rfl⟩;obtain ⟨z,hz⟩:∃ z,z=128+4*(x1 % 60):=⟨_,rfl⟩;obtain ⟨N,hN⟩:∃ N,N=1+d % 60:=⟨_,rfl⟩;have e1:(3:Int)+((x0 % 5:Nat):Int)=(nn:Int):=by omega
  have e2:(128:Int)+4*((x1 % 60:Nat):Int)=(z:Int):=by omega
  have e3:(1:Int)+((d % 60:Nat):Int)=(N:Int):=by omega
  have n1:3≤nn∧nn≤7:=by omega
  have n2:128≤z∧z≤364:=by omega
  have n3:1≤N∧N≤60:=by omega
  have n4:(x1 % 60:Nat) < 60:=Nat.mod_lt _ (by decide)
  refine CodeD.seq nofun (CodeD.run (e:=.normal) (st':=⟨[(2,.val (.slice a B.length c)),(3,.val (.int .u8 d)),(9,.var [.int .i64 nn,.int .i64 z,.int .i64 1048576])],⟨H,b,H.length⟩⟩) j hm (fun k'=>by generalize x0 % 5=y0 at *;generalize x1 % 60=y1 at *;simp (disch:=omega) [r1,r2,r3,r4,r5,r6,e1,e2]) ?_)
  obtain ⟨C,W,I,k1,k2,k3,k4,k5,D⟩:=AbsBlo.store0 (H:=H) (b:=b) (kl:=keysR) (n:=nn) (z:=z) (lim:=1048576) ⟨by omega,by omega⟩ ⟨by omega,by omega⟩ (by decide) (de (Nat.mul_le_mul n1.2 n2.2) (by decide)) (by omega);have C:=fun w=>cf sub (C w)
  have D:=fun w=>cf sub (D w)
  simp only [bf] at C;refine CodeD.seq nofun (CodeD.run (e:=.normal) (st':=⟨[(2,.val (.slice a B.length c)),(3,.val (.int .u8 d)),(9,.var [.int .i64 nn,.int .i64 z,.int .i64 1048576]),(10,.val (.ptr (some (H.length,0)))),(11,.val (.int .i64 0))],⟨H++AbsBlo.newO H.length nn z 1048576,b,H.length⟩⟩) j hm (fun k'=>by simp (disch:=omega) [C]) ?_);refine CodeD.seq nofun (CodeD.run (e:=.normal) (st':=⟨[(2,.val (.slice a B.length c)),(3,.val (.int .u8 d)),(9,.var [.int .i64 nn,.int .i64 z,.int .i64 1048576]),(11,.val (.int .i64 0)),(12,.val (.ptr (some (I.s,0)))),(13,.val (.int .i64 0))],⟨W,b,H.length⟩⟩) j hm (fun k'=>by simp (disch:=omega) [D]) ?_)
  refine CodeD.seq nofun (CodeD.run (e:=.normal) (st':=⟨[(2,.val (.slice a B.length c)),(3,.val (.int .u8 d)),(9,.var [.int .i64 nn,.int .i64 z,.int .i64 1048576]),(12,.val (.ptr (some (I.s,0))))],⟨W,b,H.length⟩⟩) j hm (fun k'=>by simp (disch:=omega) []) ?_);refine CodeD.seq nofun (CodeD.run (e:=.normal) (st':=⟨[(2,.val (.slice a B.length c)),(3,.val (.int .u8 d)),(9,.var [.int .i64 nn,.int .i64 z,.int .i64 1048576]),(12,.val (.ptr (some (I.s,0)))),(14,.val (.slice none 0 (some 0)))],⟨W,b,H.length⟩⟩) j hm (fun k'=>by simp (disch:=omega) []) ?_);refine CodeD.seq nofun ?_
  refine CodeD.seq nofun (CodeD.run (e:=.normal) (st':=⟨[(2,.val (.slice a B.length c)),(9,.var [.int .i64 nn,.int .i64 z,.int .i64 1048576]),(12,.val (.ptr (some (I.s,0)))),(14,.val (.slice none 0 (some 0))),(52,.val (.int .i64 N)),(53,.val (.int .i64 (0:Nat)))],⟨W,b,H.length⟩⟩) j hm (fun k'=>by generalize d % 60=y3 at *;simp (disch:=omega) [r7,r8,r9,e3]) ?_)
  have cp:=k1.len;have d1:(H++AbsBlo.newO H.length nn z 1048576).length=H.length+3:=by simp [AbsBlo.newO]
  have G:∀ (i:Nat) (y:Sec),(AbsBlo.K0 nn).secs[i]? = some y→y.st=0∧y.er=0:=fun i y hy=>by have:=br hy;rw [(List.mem_replicate.1 this).2];exact ⟨rfl,rfl⟩
  have b7:(AbsBlo.K0 nn).secs.length=nn:=bq
  have bb:LJ I (AbsBlo.F0 nn z 1048576) B (.slice a B.length c) 0 W (AbsBlo.F0 nn z 1048576) (AbsBlo.K0 nn) [] none:=by
   refine ⟨k5,.refl _,⟨fun i y hy=>?_,.inl ⟨rfl,fun i y hy=>(G i y hy).1⟩,fk _⟩,?_,b7,⟨.nil,fun k=>rfl⟩,⟨fun h=>absurd rfl h⟩,(fun p o e=>by cases e),?_⟩
   ·obtain ⟨y1,y2⟩:=G i y hy;exact ⟨.inl y1,by rw [y2]; exact Int.natCast_nonneg _⟩
   ·have:=AbsBlo.cnt_all (m:=opn (AbsBlo.F0 nn z 1048576).lim) (L:=(AbsBlo.K0 nn).secs) (AbsBlo.K0 nn).secs.length fun i hi=>by have hx:=ai hi;refine ⟨_,hx,?_⟩;unfold opn;rw [(G _ _ hx).1]; rfl
    unfold cntO;omega
   ·refine hB.mono (by omega) fun p o n c' e x hx=>k1 _ _ (by rw [ag (ah hx)]; exact hx)
  refine CodeD.after (CodeD.block ((law_loop Q k2 (F0:=AbsBlo.F0 nn z 1048576) (N:=N) (B:=B) (nn:=nn) (z:=z) (lim:=1048576) ⟨rfl,rfl,rfl⟩ n1 ⟨n2.1,by omega⟩ rfl hv hl n3.2 (k:=N) ⟨0,W,_,_,[],none,some 0,H.length,by omega,rfl,bb,by omega,rfl⟩).mono fun e st hq _=>?_));rcases hq with ⟨rfl,i,P,F1,K1,l,al,lc,w1,J,bm,rfl⟩ | ⟨rfl,P,w1,bm,rfl⟩
  ·simp only [xy,if_true];have bx:keepK [12,14] [(12,Slot.val (.ptr (some (I.s,0)))),(14,.val (.slice al l.length lc))]=[(12,.val (.ptr (some (I.s,0)))),(14,.val (.slice al l.length lc))]:=by simp
   rw [bx];obtain ⟨s1,s2,s3⟩:=small J.so J.ho;have cx:=J.so.a.hi;have c4:b≤P.length:=by have:=k2.1; have:=ah J.so.a.s; omega
   have c5:K1.ix.length≤12:=by have h1:=AbsBlo.so_few J.so;have h3:keysR.length=10:=rfl;omega
   refine CodeD.seq nofun (CodeD.after (CodeD.regionX j hm ?_));refine OpsD.run (l:=[v 103 12]) (r:=[o 104 (.callg 546 [t 103]),v 105 14,o 106 (.callg 547 [t 104,t 105]),v 8 106]) (s1:=[(103,.val (.ptr (some (I.s,0)))),(12,.val (.ptr (some (I.s,0)))),(14,.val (.slice al l.length lc))]) (h1:=⟨P,b,w1⟩) (fun k'=>by simp (disch:=omega) []) ?_;refine OpsD.call (g:=546) (xs:=[t 103]) rfl rfl rfl (d546 j hK aa J.so.a J.so.v.ix c5 J.ho s2 (by omega) c4 w1) fun vv hh U=>?_
   have O:∀ (X:List AObj) (av:Option (Nat × Nat)) (cv:Option Nat),Row (P++X) 2 pairC l av→vv = .slice av l.length cv→hh=⟨P++X,b,w1⟩→OpsD E T (fun s h=>CodeD E (.live [8] (.ret)) ⟨keepK [8] s,h⟩ fun e st'=>∃ v h',funcEnd code554 ⟨H,b,w⟩ (e,st')=some (v,h')∧v = .bool true∧h'=⟨H,b,w⟩) [v 105 14,o 106 (.callg 547 [t 104,t 105]),v 8 106] ((104,.val vv) :: [(103,.val (.ptr (some (I.s,0)))),(12,.val (.ptr (some (I.s,0)))),(14,.val (.slice al l.length lc))]) hh:=fun X av cv ci ev eh=>by
    subst ev;subst eh;have a0:=fun w=>cf sub (cf AbsBlo.sub (s547 (b:=b) (w:=w) (c:=cv) (c':=lc) ci (J.row.ext X) (by omega)))
    refine OpsD.run (l:=[v 105 14,o 106 (.callg 547 [t 104,t 105]),v 8 106]) (r:=[]) (s1:=[(8,.val (.bool true)),(106,.val (.bool true)),(105,.val (.slice al l.length lc)),(104,.val (.slice av l.length cv)),(103,.val (.ptr (some (I.s,0)))),(12,.val (.ptr (some (I.s,0)))),(14,.val (.slice al l.length lc))]) (h1:=⟨P++X,b,w1⟩) (fun k'=>by simp (disch:=omega) [a0]) (OpsD.done ?_);refine CodeD.run (e:=.ret) (st':=⟨[(8,.val (.bool true))],⟨P++X,b,w1⟩⟩) j hm (fun k'=>by simp (disch:=omega) []) ?_;exact ⟨_,_,fe554 (by omega),rfl,rfl⟩
   rcases U with ⟨rfl,rfl,rfl⟩ | ⟨d2,rfl,rfl⟩
   ·exact O [] none (some 0) ⟨fun h=>absurd rfl h⟩ rfl (by rw [gt])
   ·exact O _ _ none (Row.mk0 (fun _=>rfl) (gc P [AObj.cells 2 (l.flatMap pairC)])) rfl rfl
  ·simp only [blkE];exact ⟨_,_,fe554 (by omega),rfl,rfl⟩
 ·have V:(10:Int) < B.length:=by omega
  refine CodeD.seq nofun (CodeD.run (e:=.ret) (st':=⟨[(8,.val (.bool true))],⟨H,b,H.length⟩⟩) j hm (fun k'=>by simp (disch:=omega) [V]) ?_);exact ⟨_,_,fe554 (aj _),rfl,rfl⟩
end
end
end Go.Abs.AbsBrm
