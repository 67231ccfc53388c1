/-
  Texts joined.
-/
import Derived.Test.YtilleokmbhmieaaGreatP0
import Derived.Test.YtilleokmbhmieaaGreatP5
import Derived.Maps.RangeRun
import Derived.Test.YtilleokmbhmieaaGreatP2
import Derived.RangeFuncLeaves
import Derived.ChangeArms
import Derived.Handed
import Derived.Below
import Derived.OpenShut
import Derived.KernelRfl
set_option linter.unusedVariables false
set_option linter.unusedSimpArgs false
set_option maxRecDepth 100000
namespace Go.Abs
def AExit.toX:AExit→Exit
 | .normal=>.normal
 | .exit id=>.exit id
 | .ret=>.ret
section
variable {E:Env} {lo nt:Nat} {μ0:MM} {w0:World} {ds:List Deferred} {call:CallSem} {ro:Option Nat}
theorem At.keep {s:Slots} {h:Heap} {a:Act} {w:World} (hat:At E lo nt μ0 w0 ds s h a w) (l:List Nat):At E lo nt μ0 w0 ds (Abs.keep l s) h a w:=by
 obtain ⟨μ,ν,k1,k2,k3,k4⟩:=hat
 exact ⟨μ,ν,k1,k2,k3.less fun t x hx=>sget_keep l s t x hx,k4⟩
theorem Step.alloc {X:Nat→Prop} {wm:Nat} {μ:MM} {w:World} (B:Obj):Step X wm μ w μ (w.alloc B) :=
 ⟨rfl,rfl,rfl,by simp,fun k hk _ _=>by
  show (w.heap.push B)[k]? = _
  rw [de,if_neg (by omega)],ai _,fun _ _=>.inl rfl,fun i m hi hm=>absurd (ah hm) (by omega)⟩
theorem caps_rel {ν:Fr} {μ:MM} {s:Slots} {tmps:Array Value} {w:World} (hf:FRel E lo ν μ (sget s) tmps w):∀ {caps:List Nat} {sl:List (Nat × AVal)},capsOf s caps=some sl→∀ (k:Nat) (x:Nat × AVal),sl[k]? = some x→∃ v',tmps[x.1]? = some v'∧VRel E μ x.2 v'
 | [],sl,h,k,x,hk=>by simp only [capsOf] at h; cases h; simp at hk
 | t :: caps,sl,h,k,x,hk=>by
  simp only [capsOf] at h
  split at h
  case h_2=>cases h
  rename_i v l hs hl
  cases h
  cases k with
  | zero=>simp at hk; subst hk; exact hf.val t v hs
  | succ k=>exact caps_rel hf hl k x (by simpa using hk)
theorem next_sound {it:Operand} {x:Opd} (hx:cOpd E it=some x) {o:Oper} (ho:o.op = .next it false) (hd:∀ t,o.dst=some t→t < nt) {st:St} {l:List (AExit × St)} (hev:nextOuts o.dst x st=some l) {a:Act} {w:World}
  (hat:At E lo nt μ0 w0 ds st.s st.h a w) {next:Act→World→Prop} {Q:Exit→Act→World→Prop} (hn:∀ y ∈ l,y.1 = .normal→∀ a' w',At E lo nt μ0 w0 ds y.2.s y.2.h a' w'→next a' w'):o.wpIn (F0 ro) 0 E.P a w next Q:=by
 obtain ⟨s,h⟩:=st
 obtain ⟨μ,ν,k1,k2,k3,k4,k5,k6⟩:=hat
 refine ⟨fun _ _=>trivial,?_⟩
 rw [Oper.semAt_eq _ _ _ (fun c hc'=>by rw [ho] at hc'; cases hc')]
 have exec:∀ (v:Value) (w':World),(Instr.next (a.eval it) false o.type).run E.P w = .ok v w'→(execOp a.eval o).run E.P w = .ok (.value v) w':=fun v w' e=>by
  simp only [execOp,ho]
  exact kh e
 unfold nextOuts at hev
 split at hev
 case h_2=>cases hev
 rename_i i hxv
 have hix:=bt k3 hx hxv
 simp only [VRel] at hix
 obtain ⟨ad,hit,mo,hmo,had⟩:=hix
 split at hev
 case isFalse=>cases hev
 rename_i hb
 simp only at hb hev
 have over:∀ (m:M),μ[i]? = some (some m)→At E lo nt μ0 w0 ds (setSlot o.dst (.val (.tuple [.bool false])) s) (h.put i .dead) (a.put o.dst (.tuple #[.bool false])) w:=by
  intro m hm
  refine ⟨μ.set i none,ν,?_,k2.kill i,?_,by rw [kr]; exact k4,by rw [je]; exact k5,k6⟩
  ·exact k1.trans (Step.kill μ w (ed _ _)) (cr _ _)
  ·rw [fz]
   refine (FRel.setVal ?_ (fun y hy=>by rw [k4]; exact hd y hy) (by simp only [VRel]; exact ⟨_,rfl,by simp [VRels,VRel]⟩)).congr fun t=>gd _ _ _ _
   exact k3.keep (later_set μ i) (fun t cs hv=>rfl) (fun t cs j m' hv hj hm'=>absurd (ah hm') (by simp; omega)) fun r hr=>⟨rfl,fun j m' hj hm'=>absurd (ah hm') (by simp; omega)⟩
 split at hev
 ·rename_i since seen last hgi
  cases hev
  obtain ⟨mi,r',⟨q1,hbase⟩,q2,q3⟩:=k2.obj _ _ hgi
  rw [q1] at hmo; cases hmo
  have had':=had mi rfl
  subst had'
  simp only [VRel] at q3
  have q3':r'=none:=by simpa using q3
  subst q3'
  have hrun:(Instr.next (a.eval it) false o.type).run E.P w = .ok (.tuple #[.bool false]) w:=by
   rw [hit]
   simp [Instr.next,getObj,Sem.run,q2,Result.andThen,hbase]
  rw [exec _ _ hrun]
  exact hn _ (ct _) rfl _ _ (over mi q1)
 ·rename_i m since seen last hgi
  split at hev
  case h_2=>cases hev
  rename_i es clock hgm
  split at hev
  case isFalse=>cases hev
  rename_i hh
  obtain ⟨hold,hsc⟩:=hh
  obtain ⟨mi,r',⟨q1,hbase⟩,q2,q3⟩:=k2.obj _ _ hgi
  rw [q1] at hmo; cases hmo
  have had':=had mi rfl
  subst had'
  rw [hbase] at hit
  obtain ⟨mm,es',p1,p2,p3,p4⟩:=k2.obj _ _ hgm
  have q3':=q3
  simp only [VRel] at q3
  obtain ⟨bm,xo,e1,e2,e3⟩:=q3
  rw [p1] at e2; cases e2
  have e3:=e3 mm rfl
  subst e3
  have e1:r'=some mm.blk:=by simpa using e1
  subst e1
  have at_:∀ (k:Nat) (y:MapEntry),es'.toList[k]? = some y→∃ z,es[k]? = some z∧VRel E μ z.1 y.key∧VRel E μ z.2.1 y.val∧y.born=z.2.2:=by
   intro k y hk
   have hlt:=ah hk
   simp only [ep] at hlt
   obtain ⟨z,hz⟩:∃ z,es[k]? = some z:=⟨_,aj (by omega)⟩
   obtain ⟨y',y1,y2,y3,y4⟩:=p4 k z hz
   have:y'=y:=by
    rw [← jf,hk] at y1
    exact (bz y1).symm
   subst this
   exact ⟨z,hz,y2,y3,y4⟩
  have hold':∀ y ∈ es'.toList,y.born < since:=by
   intro y hy
   obtain ⟨k,hk⟩:=fk hy
   obtain ⟨z,z1,_,_,z4⟩:=at_ k y hk
   rw [al] at hold
   have:=hold z (bn z1)
   rw [z4]
   simpa using this
  have hin:∀ (k:Nat) (z:AVal × AVal × Nat),es[k]? = some z→(!seen.contains z.2.2)=true→(leftOf es' seen.toArray).size≠0:=by
   intro k z hz hs h0
   obtain ⟨y,y1,_,_,y4⟩:=p4 k z hz
   have hmem:y ∈ leftOf es' seen.toArray:=by
    unfold leftOf
    rw [Array.mem_filter]
    refine ⟨Array.mem_of_getElem? y1,?_⟩
    rw [y4]
    simpa using hs
   rw [Array.eq_empty_of_size_eq_zero h0] at hmem
   simp at hmem
  rcases run_next_at (P:=E.P) w o.type mi.blk mm.blk since last seen.toArray es' clock q2 p2 hold' hsc with ⟨h0,hrun⟩ | ⟨y,hy,w1,hw1,hrun⟩
  ·-- nothing is left
   rw [exec _ _ (by rw [hit]; exact hrun)]
   split at hev
   ·cases hev
    exact hn _ (ct _) rfl _ _ (over mi q1)
   ·rename_i hne
    exfalso
    cases hf:es.filter fun e=>!seen.contains e.2.2 with
    | nil=>exact hne hf
    | cons z zs =>
     have hz:z ∈ es.filter fun e=>!seen.contains e.2.2:=by rw [hf]; exact a7 ..
     rw [eu] at hz
     obtain ⟨k,hk⟩:=fk hz.1
     exact hin k z hk hz.2 h0
  ·-- an entry
   have hy':y ∈ es'.toList∧(!seen.contains y.born)=true:=by
    unfold leftOf at hy
    rw [Array.mem_toList_iff,Array.mem_filter] at hy
    exact ⟨Array.mem_toList_iff.2 hy.1,by simpa using hy.2⟩
   obtain ⟨k,hk⟩:=fk hy'.1
   obtain ⟨z,z1,z2,z3,z4⟩:=at_ k y hk
   have hzf:z ∈ es.filter fun e=>!seen.contains e.2.2:=by
    rw [eu]
    exact ⟨bn z1,by rw [← z4]; exact hy'.2⟩
   rw [exec _ _ (by rw [hit]; exact hrun)]
   split at hev
   ·rename_i hf
    rw [hf] at hzf; cases hzf
   ·cases hev
    refine hn _ (List.mem_map_of_mem hzf) rfl _ _ ?_
    have hw1h:w1.heap=w.heap∧w1.os=w.os∧w1.tape=w.tape∧w1.output=w.output:=by rcases hw1 with rfl | rfl <;> exact ⟨rfl,rfl,rfl,rfl⟩
    let B:Obj:=.mapIter (some mm.blk) since (seen.toArray.push y.born) clock
    have hlt:=k2.lt i mi q1
    have hheap:(Go.ChangeMaps.setBlock w1 mi.blk B).heap=(withBlock w mi.blk B).heap:=by
     simp [Go.ChangeMaps.setBlock,withBlock,hw1h.1]
    refine ⟨μ,ν,?_,?_,?_,by rw [kr]; exact k4,by rw [je]; exact k5,?_⟩
    ·have hB:Step (fun k=>lo≤k) (h.put i (.mapIter (some m) since (seen++[z.2.2]) clock)).wmin μ w μ (withBlock w mi.blk B):=Step.put q1 (ed _ _) _
     exact (k1.trans hB (cr _ _)).heap hheap hw1h.2.1 hw1h.2.2.1 hw1h.2.2.2
    ·refine (k2.put hb q1 (B:=B) ?_).same rfl rfl hheap
     exact ⟨mi,some mm.blk,⟨q1,hbase⟩,by rw [ex hlt]; simp [B,z4],q3'⟩
    ·rw [fz]
     refine (FRel.setVal ?_ (fun y hy=>by rw [k4]; exact hd y hy) (by simp only [VRel]; exact ⟨_,rfl,by simp only [VRels]; exact ⟨_,_,rfl,by simp only [VRel],_,_,rfl,z2,_,_,rfl,z3,rfl⟩⟩)).congr fun t=>gd _ _ _ _
     refine (k3.keep (w':=withBlock w mi.blk B) (Later.refl _) (fun t cs' hv=>bf (k3.sepm t cs' i mi hv q1)) (fun t cs' j m' _ hj hm=>absurd (ah hm) (by omega)) fun q hq=>⟨bf ((k3.sepd q hq).1 i mi q1),fun j m' hj hm=>absurd (ah hm) (by omega)⟩).heap hheap
    ·show lo≤(Go.ChangeMaps.setBlock w1 mi.blk B).heap.size
     rw [hheap]
     simpa [withBlock] using k6
 ·cases hev
theorem rangeFunc_sound (hc:CallOK E call) (hg:GidOK E) {f:Operand} {ps:Array Tmp} {ax bx:Code} {f':Opd} {g:Nat} {caps:List Nat} {aa ab:ACode} {ha hb:Hint} (hf:cOpd E f=some f') (hca:cCode E nt true ha ax=some aa) (hcb:cCode E nt true hb bx=some ab) (hps:(ps.all fun t=>decide (t < nt))=true)
  (hrnd:E.rnd g=some ⟨ps.toList,aa,ab⟩) {s:Slots} {h:Heap} {a:Act} {w:World} (hat:At E lo nt μ0 w0 ds s h a w) {fv:AVal} {sl:List (Nat × AVal)} (hfv:f'.ev s=some fv) (hsl:capsOf s caps=some sl) {x:AVal} {h':Heap}
  (hcall:callVal call fv [.yield h.size] (h.push (.loop g .ready none sl))=some (x,h')) {e:AExit} {st':St} (hend:loopEnd s h' h.size=some (e,st')) (hev:Evol (h.push (.loop g .ready none sl)) h') {Q:Exit→Act→World→Prop}
  (hn:∀ a' w',At E lo nt μ0 w0 ds st'.s st'.h a' w'→Q e.toX a' w'):(Code.rangeFunc f ps ax bx).wpIn (F0 none) 0 E.P Q a w:=by
 obtain ⟨μ,ν,k1,k2,k3,k4,k5,k6⟩:=hat
 unfold callVal at hcall
 split at hcall
 case h_2=>cases hcall
 rename_i gf first cp
 have hfr:=bt k3 hf hfv
 simp only [VRel] at hfr
 obtain ⟨fid,f1,c1,e1,e2,e3,e4⟩:=hfr
 have hlen:h.size=μ.length:=k2.len.symm
 refine wpIn_rangeFunc fun fn _=>?_
 let rec0:Loop:={ state:=.ready,pending:=none,fn:=fn,tmps:=a.tmps,params:=ps,assign:=ax,body:=bx,defers:=w.heap.size }
 let w1:World:=w.alloc (.deferred (some []))
 let w2:World:=w1.alloc (.loop rec0)
 let m:M:=⟨w.heap.size+1,0,0,0⟩
 let μ1:MM:=μ++[some m]
 have hw1:w1.heap.size=w.heap.size+1:=by simp [w1]
 have hw2:w2.heap.size=w.heap.size+2:=by simp [w2,w1]
 have hargs:VRels E μ1 (first++[.yield h.size]++cp) (f1 ++ #[Value.func (.yield (w.heap.size+1)) #[] #[]]++c1).toList:=by
  have hy:VRel E μ1 (.yield h.size) (.func (.yield (w.heap.size+1)) #[] #[]):=by
   simp only [VRel]
   exact ⟨w.heap.size+1,some m,rfl,by rw [hlen]; simp [μ1],fun m' hm'=>by cases hm'; rfl⟩
  have:=((e3.later (gc μ (some m))).append (show VRels E μ1 [.yield h.size] [_] from by simp only [VRels]; exact ⟨_,[],rfl,hy,rfl⟩)).append (e4.later (gc μ (some m)))
  simpa using this
 have hl1:Later μ μ1:=gc μ _
 have hr1:Rel E μ h w1:=k2.keep (by omega) (fun i m' hm'=>by
  have:=k2.lt i m' hm'
  show (w.heap.push _)[m'.blk]? = _
  rw [de,if_neg (by omega)]) fun k _ hk=>by
  show (w.heap.push _)[k]? = _
  rw [de,if_neg (by omega)]
 have hr2:Rel E μ1 (h.push (.loop g .ready none sl)) w2:=by
  refine hr1.push _ (.loop rec0) m (by simp [m,hw1]) ⟨m,rec0,by simp,by show (w1.heap.push _)[w.heap.size+1]? = _; rw [de,if_pos (by omega)],⟨⟨⟨ps.toList,aa,ab⟩,ha,hb,hrnd,rfl,fun t ht=>?_,by rw [show rec0.tmps.size=nt from k4]; exact hca,by rw [show rec0.tmps.size=nt from k4]; exact hcb⟩,rfl,rfl,fun k x hk=>?_⟩⟩
  ·rw [Array.all_eq_true_iff_forall_mem] at hps
   have:=hps t (by simpa using ht)
   rw [show rec0.tmps.size=nt from k4]
   simpa using this
  ·obtain ⟨v',h1,h2⟩:=caps_rel k3 hsl k x hk
   exact ⟨v',h1,h2.later hl1⟩
 let ν1:Fr:=⟨ν.v,w.heap.size :: ν.ds⟩
 have hblk12:∀ b,b < w.heap.size→w2.heap[b]? = w.heap[b]?:=fun b hb=>by
  show ((w.heap.push _).push _)[b]? = _
  rw [de,if_neg (by simp; omega),de,if_neg (by omega)]
 have hnewm:∀ (i:Nat) (m':M),μ1[i]? = some (some m')→m'.blk < w.heap.size∨m'.blk=w.heap.size+1:=fun i m' hm'=>by
  rcases gq hm' with q | ⟨_,q⟩
  ·exact .inl (k2.lt i m' q)
  ·cases q; exact .inr rfl
 have hold:∀ (i:Nat) (m':M),μ1[i]? = some (some m')→m'.blk < w.heap.size→μ[i]? = some (some m'):=fun i m' hm' hlt=>by
  rcases gq hm' with q | ⟨_,q⟩
  ·exact q
  ·cases q
   have hlt':w.heap.size+1 < w.heap.size:=hlt
   omega
 have hf2:FRel E lo ν1 μ1 (sget s) a.tmps w2:=by
  refine ⟨fun t v hv=>?_,k3.undef,fun t cs hv=>?_,k3.loc,k3.sepv,fun t cs i m' hv hm'=>?_,fun r hr=>?_,fun r hr=>⟨fun i m' hm'=>?_,fun t cs hv=>?_⟩,?_⟩
  ·obtain ⟨v',h1,h2⟩:=k3.val t v hv
   exact ⟨v',h1,h2.later hl1⟩
  ·obtain ⟨h1,h2,c,e,fr,h3,h4,h5,h6⟩:=k3.var t cs hv
   exact ⟨h1,h2,c,e,fr,(hblk12 _ (k3.lt hv)).trans h3,h4,h5.later hl1,h6⟩
  ·have:=k3.lt hv
   rcases hnewm i m' hm' with q | q
   ·exact k3.sepm t cs i m' hv (hold i m' hm' q)
   ·intro e
    have e':m'.blk=ν t:=e
    omega
  ·rcases c9.1 hr with rfl | hr
   ·refine ⟨k6,?_⟩
    show ((w.heap.push _).push _)[w.heap.size]? = _
    rw [de,if_neg (by simp),de,if_pos rfl]
   ·obtain ⟨h1,h2⟩:=k3.ds r hr
    exact ⟨h1,(hblk12 r (k3.lt_ds hr)).trans h2⟩
  ·rcases c9.1 hr with rfl | hr
   ·rcases hnewm i m' hm' with q | q <;> omega
   ·have:=k3.lt_ds hr
    rcases hnewm i m' hm' with q | q
    ·exact (k3.sepd r hr).1 i m' (hold i m' hm' q)
    ·omega
  ·rcases c9.1 hr with rfl | hr
   ·have:=k3.lt hv
    intro e
    have e':ν t=w.heap.size:=e
    omega
   ·exact (k3.sepd r hr).2 t cs hv
  ·exact ⟨List.nodup_cons.2 ⟨fun h=>by have:=k3.lt_ds h; omega,k3.nodup.1⟩,k3.nodup.2⟩
 have hs2:Step (fun k=>lo≤k) h.wmin μ0 w0 μ1 w2:=(k1.trans (Step.alloc _) (ai _)).trans (Step.push (X:=fun k=>lo≤k) h.wmin μ w1 (.loop rec0) m (by simp [m,hw1])) (ai _)
 refine ⟨w.heap.size+1,[markOf w.heap.size],w2,{ target:=.fn (.func fid) c1,args:=f1 ++ #[Value.func (.yield (w.heap.size+1)) #[] #[]] },w2,fid,f1 ++ #[Value.func (.yield (w.heap.size+1)) #[] #[]]++c1,w2,run_enterLoop_outer fn a.tmps ps ax bx,?_,fun _ _=>trivial,?_,fun hh=>by simp [F0,Fence.wide] at hh,?_⟩
 ·simp only [resolve]
  rw [e1]
  simp [Deferred.ofValue,Act.eval]
 ·have:=ic hg e2 (f1 ++ #[Value.func (.yield (w.heap.size+1)) #[] #[]]++c1) w2
  simpa [invoke] using this
 ·refine CallsIn.mono (F:=F0 none) (n:=0) (hc.fn gf _ _ x h' hcall fid e2 μ1 w2 _ hargs hr2) ?_
  rintro ending w3 ⟨v',μ3,rfl,j1,j2,j3⟩
  unfold loopEnd at hend
  split at hend
  case h_2=>cases hend
  rename_i g2 st p sl2 hgi
  split at hend
  ·cases hend
  rename_i hbusy
  cases hend
  obtain ⟨m3,r3,q1,q2,q3⟩:=j3.obj _ _ hgi
  have hi1:h.size < μ1.length:=by rw [hlen]; simp [μ1]
  have hm3:m3=m:=by
   rcases j1.old h.size hi1 with q | ⟨_,q⟩
   ·rw [q] at q1
    have:μ1[h.size]? = some (some m):=by rw [hlen]; simp [μ1]
    rw [this] at q1
    cases q1; rfl
   ·rw [q] at q1; cases q1
  subst hm3
  have hst3:r3.state ≠ .busy:=by
   have:=q3.st
   cases st <;> simp only [LoopSt.is] at this <;> rw [this]
   ·simp
   ·exact absurd rfl hbusy
   ·simp
  let w4:World:=w3.putObj (w.heap.size+1) (.loop { r3 with state:=.exhausted })
  have hf3:FRel E lo ν1 μ3 (sget s) a.tmps w3:=hf2.step j1 fun _ _ h=>h
  have hwle:h'.wmin≤h.wmin:=hev.wmin
  have hat4:At E lo nt μ0 w0 ds s (h'.put h.size .dead) { a with defers:=[markOf w.heap.size]++a.defers } w4:=by
   have hput:w4=withBlock w3 m.blk (.loop { r3 with state:=.exhausted }):=rfl
   refine ⟨μ3.set h.size none,ν1,?_,?_,?_,k4,?_,?_⟩
   ·have hA:=hs2.trans (j1.weaken (Y:=fun k=>lo≤k) (ai _) fun b h _=>h.elim) hwle
    have hB:Step (fun k=>lo≤k) (h'.put h.size .dead).wmin μ3 w3 μ3 w4:=by rw [hput]; exact Step.put q1 (ed _ _) _
    have hC:Step (fun k=>lo≤k) (h'.put h.size .dead).wmin μ3 w4 (μ3.set h.size none) w4:=Step.kill μ3 w4 (ed _ _)
    exact (hA.trans hB (cr _ _)).trans hC (ai _)
   ·have hkill:=j3.kill h.size
    refine hkill.keep (by simp [w4]) (fun j m' hm'=>?_) fun k hk _=>by rw [hput]; exact bf (by have:=k2.tab.1; simp [m]; omega)
    rw [hput]
    refine bf ?_
    rw [get_set] at hm'
    split at hm'
    ·split at hm' <;> cases hm'
    ·rename_i hne
     refine j3.sep h.size j m m' hne ?_ q1 hm'
     have h1:=j3.bs
     rw [hev.base]
     have:=k2.bs
     show h.base≤h.objs.length
     exact this
   ·refine hf3.keep (later_set μ3 h.size) (fun t cs hv=>by rw [hput]; exact bf (hf3.sepm t cs h.size m hv q1)) (fun t cs j m' hv hj hm'=>absurd (ah hm') (by simp; omega)) fun r hr=>⟨by rw [hput]; exact bf ((hf3.sepd r hr).1 h.size m q1),fun j m' hj hm'=>absurd (ah hm') (by simp; omega)⟩
   ·show [markOf w.heap.size]++a.defers=_
    rw [k5]; rfl
   ·have:=j1.size
    simp only [w4,World.putObj_size]; omega
  refine ⟨r3.pending,w4,run_endLoop q2 hst3,?_⟩
  rw [q3.pend]
  cases p with
  | none=>exact hn _ _ hat4
  | some e0 =>
   cases e0 with
   | normal=>exact wpIn_skip (hn _ _ hat4)
   | exit id=>exact wpIn_exit (hn _ _ hat4)
   | ret=>exact wpIn_ret (hn _ _ hat4)
theorem jx {inR:Bool} {c:Code} {ac:ACode} (h:cCode E nt inR .next c=some ac):∃ d y r,ac = .seq (.next d y) r:=by
 cases c <;> simp only [cCode] at h <;> (try cases h)
 split at h
 ·split at h
  ·split at h
   ·cases h
    exact ⟨_,_,_,rfl⟩
   ·cases h
  ·cases h
 ·cases h
theorem code_sound (hc:CallOK E call) (hev0:CallEvol call) (hg:GidOK E) (hm:E.P.follows .mixedOrders=true) (inR:Bool) (hro:inR=false→ro=none) (n:Nat) :
  ∀ (hint:Hint) (c:Code) (ac:ACode),cCode E nt inR hint c=some ac→(inR=false→∀ p ∈ ac.rounds,E.rnd p.1=some p.2)→∀ (st:St) (e:AExit) (st':St),evCode call n ac st=some (e,st')→∀ (a:Act) (w:World) (Q:Exit→Act→World→Prop),At E lo nt μ0 w0 ds st.s st.h a w →
   (∀ a' w',At E lo nt μ0 w0 ds st'.s st'.h a' w'→Q e.toX a' w')→c.wpIn (F0 ro) 0 E.P Q a w:=by
 intro hint
 induction hint with
 | stuck =>
  intro c ac hcc hrd st e st' hev a w Q hat hn
  simp only [cCode] at hcc
  cases hcc
  simp [evCode,Opd.ev] at hev
 | leaf =>
  intro c ac hcc hrd st e st' hev a w Q hat hn
  cases c <;> simp only [cCode] at hcc <;> (try cases hcc)
  ·simp only [evCode] at hev; cases hev
   exact wpIn_skip (hn _ _ hat)
  ·simp only [evCode] at hev; cases hev
   exact wpIn_exit (hn _ _ hat)
  ·simp only [evCode] at hev; cases hev
   exact wpIn_ret (hn _ _ hat)
 | reg segs locs =>
  intro c ac hcc hrd st e st' hev a w Q hat hn
  cases c <;> simp only [cCode] at hcc <;> (try cases hcc)
  rw [ae] at hcc
  obtain ⟨gs,hgs,rfl⟩:=hcc
  simp only [evCode] at hev
  rw [ae] at hev
  obtain ⟨⟨s1,h1⟩,hev,he⟩:=hev
  cases he
  exact region_sound hc hev0 hg hm hgs hev hat hn
 | seq x y ihx ihy =>
  intro c ac hcc hrd st e st' hev a w Q hat hn
  cases c <;> simp only [cCode] at hcc <;> (try cases hcc)
  split at hcc
  case h_2=>cases hcc
  rename_i ax ay hx hy
  cases hcc
  simp only [evCode] at hev
  apply wpIn_seq
  split at hev
  ·rename_i st1 h1
   exact ihx _ _ hx (fun hi p hp=>hrd hi p (by simp [ACode.rounds,hp])) _ _ _ h1 a w _ hat fun a' w' hat'=>ihy _ _ hy (fun hi p hp=>hrd hi p (by simp [ACode.rounds,hp])) _ _ _ hev a' w' Q hat' hn
  ·rename_i hne
   refine ihx _ _ hx (fun hi p hp=>hrd hi p (by simp [ACode.rounds,hp])) _ _ _ hev a w _ hat fun a' w' hat'=>?_
   cases e with
   | normal=>exact absurd hev (hne _)
   | exit id=>exact hn _ _ hat'
   | ret=>exact hn _ _ hat'
 | cond x y ihx ihy =>
  intro c ac hcc hrd st e st' hev a w Q hat hn
  cases c <;> simp only [cCode] at hcc <;> (try cases hcc)
  split at hcc
  case h_2=>cases hcc
  rename_i c' ax ay hcop hx hy
  cases hcc
  simp only [evCode] at hev
  have hat0:=hat
  obtain ⟨μ,ν,_,_,k3,_⟩:=hat
  split at hev
  ·rename_i hb
   have:=bt k3 hcop hb
   simp only [VRel] at this
   exact wpIn_cond_true this (ihx _ _ hx (fun hi p hp=>hrd hi p (by simp [ACode.rounds,hp])) _ _ _ hev a w Q hat0 hn)
  ·rename_i hb
   have:=bt k3 hcop hb
   simp only [VRel] at this
   exact wpIn_cond_false this (ihy _ _ hy (fun hi p hp=>hrd hi p (by simp [ACode.rounds,hp])) _ _ _ hev a w Q hat0 hn)
  ·cases hev
 | block x ih =>
  intro c ac hcc hrd st e st' hev a w Q hat hn
  cases c <;> simp only [cCode] at hcc <;> (try cases hcc)
  rw [ae] at hcc
  obtain ⟨ax,hx,rfl⟩:=hcc
  simp only [evCode] at hev
  apply wpIn_block
  split at hev
  ·rename_i j st1 h1
   refine ih _ _ hx hrd _ _ _ h1 a w _ hat fun a' w' hat'=>?_
   simp only [AExit.toX,Exit.inBlock]
   split at hev
   ·rename_i hj
    cases hev
    rw [if_pos hj]
    exact hn _ _ hat'
   ·rename_i hj
    cases hev
    rw [if_neg hj]
    exact hn _ _ hat'
  ·rename_i hne
   refine ih _ _ hx hrd _ _ _ hev a w _ hat fun a' w' hat'=>?_
   cases e with
   | normal=>exact hn _ _ hat'
   | exit id=>exact absurd hev (hne _ _)
   | ret=>exact hn _ _ hat'
 | loop x ih =>
  intro c ac hcc hrd st e st' hev a w Q hat hn
  cases c <;> simp only [cCode] at hcc <;> (try cases hcc)
  rename_i y
  rw [ae] at hcc
  obtain ⟨ax,hx,rfl⟩:=hcc
  simp only [evCode] at hev
  have key:∀ (m:Nat) (st:St) (a:Act) (w:World),loopN (evCode call n ax) m st=some (e,st')→At E lo nt μ0 w0 ds st.s st.h a w→Code.roundsIn (F0 ro) 0 E.P y Q m a w:=by
   intro m
   induction m with
   | zero=>intro st a w h1; simp [loopN] at h1
   | succ m ihm =>
    intro st a w h1 hat1
    rw [roundsIn_succ]
    simp only [loopN] at h1
    split at h1
    ·rename_i st1 h2
     exact ih _ _ hx hrd _ _ _ h2 a w _ hat1 fun a' w' hat'=>ihm st1 a' w' h1 hat'
    ·rename_i hne
     refine ih _ _ hx hrd _ _ _ h1 a w _ hat1 fun a' w' hat'=>?_
     cases e with
     | normal=>exact absurd h1 (hne _)
     | exit id=>exact hn _ _ hat'
     | ret=>exact hn _ _ hat'
  exact wpIn_loop_rounds n (key n st a w hev hat)
 | next =>
  intro c ac hcc hrd st e st' hev a w Q hat hn
  obtain ⟨d,y,r,rfl⟩:=jx hcc
  simp [evCode] at hev
 | live l x ih =>
  intro c ac hcc hrd st e st' hev a w Q hat hn
  simp only [cCode] at hcc
  rw [ae] at hcc
  obtain ⟨ax,hx,rfl⟩:=hcc
  simp only [evCode] at hev
  exact ih _ _ hx hrd _ _ _ hev a w Q (hat.keep l) hn
 | after x l ih =>
  intro c ac hcc hrd st e st' hev a w Q hat hn
  simp only [cCode] at hcc
  rw [ae] at hcc
  obtain ⟨ax,hx,rfl⟩:=hcc
  simp only [evCode] at hev
  split at hev
  ·rename_i st1 h1
   cases hev
   exact ih _ _ hx hrd _ _ _ h1 a w Q hat fun a' w' hat'=>hn _ _ (hat'.keep l)
  ·exact ih _ _ hx hrd _ _ _ hev a w Q hat hn
 | rangeFunc g caps ha hb _ _ =>
  intro c ac hcc hrd st e st' hev a w Q hat hn
  cases c <;> simp only [cCode] at hcc <;> (try cases hcc)
  split at hcc
  case h_2=>cases hcc
  rename_i f' aa ab hf hca hcb
  split at hcc
  case isFalse=>cases hcc
  rename_i hh
  obtain ⟨hin,hps⟩:=hh
  cases hcc
  have hro':=hro hin
  subst hro'
  have hrnd:=hrd hin _ (ct _)
  simp only [evCode] at hev
  split at hev
  case h_2=>cases hev
  rename_i fv sl hfv hsl
  split at hev
  case h_2=>cases hev
  rename_i x h' hcall
  have hevl:Evol (st.h.push (.loop g .ready none sl)) h':=by
   unfold callVal at hcall
   split at hcall
   ·exact hev0 _ _ _ _ _ hcall
   ·cases hcall
  exact rangeFunc_sound hc hg hf hca hcb hps hrnd hat hfv hsl hcall hev hevl hn
theorem flatL_get {α β:Type} {f:α→Option (List β)}:∀ {l:List α} {ys:List β},flatL f l=some ys→∀ x ∈ l,∃ zs,f x=some zs∧∀ z ∈ zs,z ∈ ys
 | [],ys,h,x,hx=>by cases hx
 | y :: l,ys,h,x,hx=>by
  simp only [flatL] at h
  split at h
  case h_2=>cases h
  rename_i a b h1 h2
  cases h
  rcases c9.1 hx with rfl | hx
  ·exact ⟨a,h1,fun z hz=>c8 _ hz⟩
  ·obtain ⟨zs,k1,k2⟩:=flatL_get h2 x hx
   exact ⟨zs,k1,fun z hz=>eg _ (k2 z hz)⟩
theorem outs_sound (hc:CallOK E call) (hev0:CallEvol call) (hg:GidOK E) (hm:E.P.follows .mixedOrders=true) (inR:Bool) (hro:inR=false→ro=none) (n:Nat) :
  ∀ (hint:Hint) (c:Code) (ac:ACode),cCode E nt inR hint c=some ac→(inR=false→∀ p ∈ ac.rounds,E.rnd p.1=some p.2)→∀ (st:St) (l:List (AExit × St)),evOuts call n ac st=some l→∀ (a:Act) (w:World) (Q:Exit→Act→World→Prop),At E lo nt μ0 w0 ds st.s st.h a w →
   (∀ y ∈ l,∀ a' w',At E lo nt μ0 w0 ds y.2.s y.2.h a' w'→Q y.1.toX a' w')→c.wpIn (F0 ro) 0 E.P Q a w:=by
 have base:∀ (hint:Hint) (c:Code) (ac:ACode),cCode E nt inR hint c=some ac→(inR=false→∀ p ∈ ac.rounds,E.rnd p.1=some p.2)→∀ (st:St) (l:List (AExit × St)),(evCode call n ac st).map (fun x=>[x])=some l→∀ (a:Act) (w:World) (Q:Exit→Act→World→Prop),At E lo nt μ0 w0 ds st.s st.h a w →
   (∀ y ∈ l,∀ a' w',At E lo nt μ0 w0 ds y.2.s y.2.h a' w'→Q y.1.toX a' w')→c.wpIn (F0 ro) 0 E.P Q a w:=by
  intro hint c ac hcc hrd st l hev a w Q hat hn
  rw [ae] at hev
  obtain ⟨x,hev,rfl⟩:=hev
  exact code_sound hc hev0 hg hm inR hro n hint c ac hcc hrd st x.1 x.2 hev a w Q hat (hn x (ct _))
 intro hint
 induction hint with
 | stuck =>
  intro c ac hcc hrd st l hev a w Q hat hn
  simp only [cCode] at hcc
  cases hcc
  simp [evOuts,Opd.ev] at hev
 | leaf =>
  intro c ac hcc hrd st l hev a w Q hat hn
  refine base .leaf c ac hcc hrd st l ?_ a w Q hat hn
  cases c <;> simp only [cCode] at hcc <;> (try cases hcc) <;> exact hev
 | reg segs locs =>
  intro c ac hcc hrd st l hev a w Q hat hn
  refine base (.reg segs locs) c ac hcc hrd st l ?_ a w Q hat hn
  cases c <;> simp only [cCode] at hcc <;> (try cases hcc)
  rw [ae] at hcc
  obtain ⟨gs,_,rfl⟩:=hcc
  exact hev
 | rangeFunc g caps ha hb _ _ =>
  intro c ac hcc hrd st l hev a w Q hat hn
  refine base (.rangeFunc g caps ha hb) c ac hcc hrd st l ?_ a w Q hat hn
  cases c <;> simp only [cCode] at hcc <;> (try cases hcc)
  split at hcc
  case h_2=>cases hcc
  split at hcc
  case isFalse=>cases hcc
  cases hcc
  exact hev
 | next =>
  intro c ac hcc hrd st l hev a w Q hat hn
  cases c <;> simp only [cCode] at hcc <;> (try cases hcc)
  rename_i id ops draw
  split at hcc
  case h_2=>cases hcc
  rename_i dst it ty pos aft rest hops
  split at hcc
  case isFalse=>cases hcc
  rename_i hd
  split at hcc
  case h_2=>cases hcc
  rename_i x as hx has
  cases hcc
  simp only [evOuts] at hev
  split at hev
  case h_2=>cases hev
  rename_i l1 h1
  apply wpIn_region
  have hsz:ops.size=rest.length+1:=by
   have:=congrArg List.length hops
   simpa using this
  have h0:ops[0]? = some ⟨dst,.next it false,ty,pos,aft,none⟩:=by
   have:=congrArg (fun l=>l[0]?) hops
   simpa using this
  have hdr:ops.toList.drop 1=rest:=by rw [hops]; rfl
  rw [hsz,List.range_eq_range',List.range'_succ]
  simp only [wpOpsIn,h0,Region.wanted,if_true]
  refine next_sound (o:=⟨dst,.next it false,ty,pos,aft,none⟩) hx rfl (fun t ht=>by
   have ht':dst=some t:=ht
   rw [ht'] at hd
   simpa using hd) h1 hat fun y hy hy1 a' w' hat'=>?_
  obtain ⟨zs,k1,k2⟩:=flatL_get hev y hy
  obtain ⟨e,st1⟩:=y
  simp only at hy1
  subst hy1
  simp only [evCode,ae] at k1
  obtain ⟨z,⟨⟨s2,h2⟩,k3,rfl⟩,rfl⟩:=k1
  have k4:evOps call as st1.s st1.h=some (s2,h2):=by
   simp only [evSegs] at k3
   split at k3
   ·rename_i s' h' e1
    cases k3
    simpa using e1
   ·cases k3
  exact ops_sound hc hev0 hg rest 1 as _ _ _ _ _ _ hdr has k4 hat' fun a2 w2 hat2=>hn _ (k2 _ (ct _)) _ _ hat2
 | seq x y ihx ihy =>
  intro c ac hcc hrd st l hev a w Q hat hn
  cases c <;> simp only [cCode] at hcc <;> (try cases hcc)
  split at hcc
  case h_2=>cases hcc
  rename_i ax ay hx hy
  cases hcc
  simp only [evOuts] at hev
  apply wpIn_seq
  split at hev
  case h_2=>cases hev
  rename_i l1 h1
  refine ihx _ _ hx (fun hi p hp=>hrd hi p (by simp [ACode.rounds,hp])) _ _ h1 a w _ hat fun z hz a' w' hat'=>?_
  obtain ⟨zs,k1,k2⟩:=flatL_get hev z hz
  obtain ⟨e,st1⟩:=z
  cases e with
  | normal=>exact ihy _ _ hy (fun hi p hp=>hrd hi p (by simp [ACode.rounds,hp])) _ _ k1 a' w' Q hat' fun q hq=>hn q (k2 q hq)
  | exit id=>cases k1; exact hn _ (k2 _ (ct _)) _ _ hat'
  | ret=>cases k1; exact hn _ (k2 _ (ct _)) _ _ hat'
 | cond x y ihx ihy =>
  intro c ac hcc hrd st l hev a w Q hat hn
  cases c <;> simp only [cCode] at hcc <;> (try cases hcc)
  split at hcc
  case h_2=>cases hcc
  rename_i c' ax ay hcop hx hy
  cases hcc
  simp only [evOuts] at hev
  have hat0:=hat
  obtain ⟨μ,ν,_,_,k3,_⟩:=hat
  split at hev
  ·rename_i hb
   have:=bt k3 hcop hb
   simp only [VRel] at this
   exact wpIn_cond_true this (ihx _ _ hx (fun hi p hp=>hrd hi p (by simp [ACode.rounds,hp])) _ _ hev a w Q hat0 hn)
  ·rename_i hb
   have:=bt k3 hcop hb
   simp only [VRel] at this
   exact wpIn_cond_false this (ihy _ _ hy (fun hi p hp=>hrd hi p (by simp [ACode.rounds,hp])) _ _ hev a w Q hat0 hn)
  ·cases hev
 | block x ih =>
  intro c ac hcc hrd st l hev a w Q hat hn
  cases c <;> simp only [cCode] at hcc <;> (try cases hcc)
  rename_i id y
  rw [ae] at hcc
  obtain ⟨ax,hx,rfl⟩:=hcc
  simp only [evOuts] at hev
  apply wpIn_block
  rw [ae] at hev
  obtain ⟨l1,h1,rfl⟩:=hev
  refine ih _ _ hx hrd _ _ h1 a w _ hat fun z hz a' w' hat'=>?_
  have hmem:=List.mem_map_of_mem (f:=fun x:AExit × St=>match x.1 with
   | .exit j=>if j=id then (AExit.normal,x.2) else (AExit.exit j,x.2)
   | e=>(e,x.2)) hz
  obtain ⟨e,st1⟩:=z
  cases e with
  | normal=>exact hn _ hmem _ _ hat'
  | ret=>exact hn _ hmem _ _ hat'
  | exit j =>
   simp only [AExit.toX,Exit.inBlock]
   simp only at hmem
   split
   ·rename_i hj
    rw [if_pos hj] at hmem
    exact hn _ hmem _ _ hat'
   ·rename_i hj
    rw [if_neg hj] at hmem
    exact hn _ hmem _ _ hat'
 | loop x ih =>
  intro c ac hcc hrd st l hev a w Q hat hn
  cases c <;> simp only [cCode] at hcc <;> (try cases hcc)
  rename_i y
  rw [ae] at hcc
  obtain ⟨ax,hx,rfl⟩:=hcc
  simp only [evOuts] at hev
  have key:∀ (m:Nat) (st:St) (l:List (AExit × St)) (a:Act) (w:World),loopO (evOuts call n ax) m st=some l→At E lo nt μ0 w0 ds st.s st.h a w→(∀ y ∈ l,∀ a' w',At E lo nt μ0 w0 ds y.2.s y.2.h a' w'→Q y.1.toX a' w')→Code.roundsIn (F0 ro) 0 E.P y Q m a w:=by
   intro m
   induction m with
   | zero=>intro st l a w h1; simp [loopO] at h1
   | succ m ihm =>
    intro st l a w h1 hat1 hn1
    rw [roundsIn_succ]
    simp only [loopO] at h1
    split at h1
    case h_2=>cases h1
    rename_i l1 h2
    refine ih _ _ hx hrd _ _ h2 a w _ hat1 fun z hz a' w' hat'=>?_
    obtain ⟨zs,k1,k2⟩:=flatL_get h1 z hz
    obtain ⟨e,st1⟩:=z
    cases e with
    | normal=>exact ihm st1 zs a' w' k1 hat' fun q hq=>hn1 q (k2 q hq)
    | exit id=>cases k1; exact hn1 _ (k2 _ (ct _)) _ _ hat'
    | ret=>cases k1; exact hn1 _ (k2 _ (ct _)) _ _ hat'
  exact wpIn_loop_rounds n (key n st l a w hev hat hn)
 | live l x ih =>
  intro c ac hcc hrd st ys hev a w Q hat hn
  simp only [cCode] at hcc
  rw [ae] at hcc
  obtain ⟨ax,hx,rfl⟩:=hcc
  simp only [evOuts] at hev
  exact ih _ _ hx hrd _ _ hev a w Q (hat.keep l) hn
 | after x l ih =>
  intro c ac hcc hrd st ys hev a w Q hat hn
  simp only [cCode] at hcc
  rw [ae] at hcc
  obtain ⟨ax,hx,rfl⟩:=hcc
  simp only [evOuts] at hev
  rw [ae] at hev
  obtain ⟨l1,h1,rfl⟩:=hev
  refine ih _ _ hx hrd _ _ h1 a w Q hat fun z hz a' w' hat'=>?_
  have hmem:=List.mem_map_of_mem (f:=fun x:AExit × St=>match x.1 with
   | .normal=>(AExit.normal,(⟨Abs.keep l x.2.s,x.2.h⟩:St))
   | e=>(e,x.2)) hz
  obtain ⟨e,st1⟩:=z
  cases e with
  | normal=>exact hn _ hmem _ _ (hat'.keep l)
  | exit id=>exact hn _ hmem _ _ hat'
  | ret=>exact hn _ hmem _ _ hat'
def resOne (tmps:Array Value):ResultVar→Sem Value
 | .tmp t=>pure (tmps.getD t Go.undef)
 | .cell x t=>do loadVar t (← asAddr (tmps.getD x Go.undef))
theorem res_rel {ν:Fr} {μ:MM} {s:Slots} {h:Heap} {a:Act} {w:World} (hf:FRel E lo ν μ (sget s) a.tmps w) (hr:Rel E μ h w):∀ {rs:List ResultVar} {as:List ARes} {vs:List AVal},cRess E.P rs=some as→resultsL s h as=some vs →
  ∃ l,(rs.mapM (resOne a.tmps)).run E.P w = .ok l w∧VRels E μ vs l
 | [],as,vs,hc,he=>by
  simp only [cRess] at hc; cases hc
  simp only [resultsL] at he; cases he
  exact ⟨[],rfl,by simp [VRels]⟩
 | r :: rs,as,vs,hc,he=>by
  simp only [cRess] at hc
  split at hc
  case h_2=>cases hc
  rename_i a' as' h1 h2
  cases hc
  simp only [resultsL] at he
  split at he
  case h_2=>cases he
  rename_i v vs' h3 h4
  cases he
  obtain ⟨l,k1,k2⟩:=res_rel hf hr h2 h4
  have hone:∃ u,(resOne a.tmps r).run E.P w = .ok u w∧VRel E μ v u:=by
   cases r with
   | tmp t =>
    simp only [cRes] at h1; cases h1
    simp only [result1] at h3
    split at h3
    ·rename_i v' hs
     cases h3
     obtain ⟨u,hu,hrel⟩:=hf.val t _ hs
     refine ⟨u,?_,hrel⟩
     simp [resOne,hu]
    ·cases h3
   | cell x t =>
    simp only [cRes] at h1
    rw [ae] at h1
    obtain ⟨n,hn,rfl⟩:=h1
    simp only [result1] at h3
    split at h3
    case h_2=>cases h3
    rename_i ad had
    unfold loadAt at h3
    split at h3
    case h_2=>cases h3
    rename_i cs o hcs
    have hco:cOpd E (.tmp x)=some (.tmp x):=rfl
    obtain ⟨b,p,c,e,fr,j1,j2,j3,j4⟩:=cellsAt_rel hf hr hco had hcs
    obtain ⟨u,j5,j6⟩:=load_rel (P:=E.P) hn j2 j3 j4 h3
    refine ⟨u,?_,j6⟩
    have j1':a.tmps.getD x Go.undef = .pointer (some ⟨b,p+o,none⟩):=j1
    simp only [resOne,j1',asAddr,Sem.run_bind,Sem.run_pure,Result.andThen_ok,j5]
  obtain ⟨u,k3,k4⟩:=hone
  refine ⟨u :: l,?_,?_⟩
  ·rw [List.mapM_cons,Sem.run_bind,k3,Result.andThen_ok,Sem.run_bind,k1,Result.andThen_ok]
   rfl
  ·simp only [VRels]; exact ⟨u,l,rfl,k4,k2⟩
theorem results_rel {ν:Fr} {μ:MM} {s:Slots} {h:Heap} {a:Act} {w:World} (hf:FRel E lo ν μ (sget s) a.tmps w) (hr:Rel E μ h w) {fn:Func} {as:List ARes} {vs:List AVal} (hc:cRess E.P fn.results.toList=some as) (he:resultsL s h as=some vs) :
  ∃ v,(results fn a.tmps).run E.P w = .ok v w∧VRel E μ (tupled vs) v:=by
 obtain ⟨l,k1,k2⟩:=res_rel hf hr hc he
 have hl:=k2.length
 have hrun:(results fn a.tmps).run E.P w = .ok (if h:l.toArray.size=1 then l.toArray[0] else .tuple l.toArray) w:=by
  have e:results fn a.tmps=(do
    let vs ← fn.results.mapM (resOne a.tmps)
    pure (if h:vs.size=1 then vs[0] else .tuple vs)):=by
   unfold results
   rfl
  rw [e,Array.mapM_eq_mapM_toList,Sem.run_bind,Sem.run_map,k1]
  rfl
 refine ⟨_,hrun,?_⟩
 clear he k1 hrun
 match vs,l,hl,k2 with
 | [],[],_,_=>simp [tupled,VRel,VRels]
 | [v],[u],_,k2 =>
  simp only [VRels] at k2
  obtain ⟨u',r',e,h1,h2⟩:=k2
  cases e
  simpa [tupled] using h1
 | v :: v2 :: vs,u :: u2 :: l,_,k2 =>
  have:¬ ((u :: u2 :: l).toArray.size=1):=by simp
  rw [dif_neg this]
  simp only [tupled,VRel]
  exact ⟨_,rfl,k2⟩
end
section
theorem reach_spec (h:Heap) (n0:Nat):∀ (f:Nat) (todo acc:List Nat),acc.Nodup→(∀ i ∈ acc,n0≤i)→(reach h n0 f todo acc).Nodup∧∀ i ∈ reach h n0 f todo acc,n0≤i
 | 0,todo,acc,h1,h2=>by simp only [reach]; exact ⟨h1,h2⟩
 | f+1,[],acc,h1,h2=>by simp only [reach]; exact ⟨h1,h2⟩
 | f+1,i :: r,acc,h1,h2=>by
  simp only [reach]
  split
  ·exact reach_spec h n0 f r acc h1 h2
  ·split
   ·exact reach_spec h n0 f r acc h1 h2
   ·rename_i hi hc
    refine reach_spec h n0 f _ _ ?_ fun j hj=>?_
    ·rw [List.nodup_append]
     refine ⟨h1,by simp,fun a ha b hb=>?_⟩
     simp at hb; subst hb
     intro e; subst e
     simp at hc; exact hc ha
    ·rcases br.1 hj with hj | hj
     ·exact h2 j hj
     ·simp at hj; omega
theorem idxIn_get:∀ {i:Nat} {l:List Nat},i ∈ l→l[idxIn i l]? = some i
 | i,[],h=>by cases h
 | i,j :: r,h=>by
  simp only [idxIn]
  split
  ·rename_i e; subst e; rfl
  ·rename_i hne
   have:i ∈ r:=by
    rcases c9.1 h with e | e
    ·exact absurd e.symm hne
    ·exact e
   simpa using idxIn_get this
end
end Go.Abs

namespace Go.Abs
section
variable {E:Env}
theorem LoopRel.ren {μ μ':MM} {g:Nat} {st:LoopSt} {p:Option AExit} {sl:List (Nat × AVal)} {r:Loop} (h:LoopRel E μ g st p sl r) (F:Nat→Nat) (hm:∀ j ∈ AObj.ids (.loop g st p sl),j < μ.length→μ'[F j]? = μ[j]?) :
  LoopRel E μ' g st p (sl.map fun x=>(x.1,x.2.ren F)) r:=by
 refine ⟨h.code,h.st,h.pend,fun k x hk=>?_⟩
 rw [bk,ae] at hk
 obtain ⟨y,hy,rfl⟩:=hk
 obtain ⟨v',h1,h2⟩:=h.slots k y hy
 refine ⟨v',h1,ren_rel F (fun i hi hl=>hm i ?_ hl) h2⟩
 simp only [AObj.ids]
 exact kx (k:=k) (by rw [bk,hy]; rfl) hi
theorem finish_sound {lo:Nat} {μ0 μ:MM} {h0 h:Heap} {w0 w:World} {v:AVal} {v':Value} (hlo:lo=w0.heap.size) (hr0:Rel E μ0 h0 w0) (hst:Step (fun k=>lo≤k) h.wmin μ0 w0 μ w) (hr:Rel E μ h w)
  (hv:VRel E μ v v') (hev:Evol { h0 with wmin:=h0.size } h) :
  ∃ μ',Step (fun _=>False) (finish h0 v h).2.wmin μ0 w0 μ' w∧VRel E μ' (finish h0 v h).1 v'∧Rel E μ' (finish h0 v h).2 w:=by
 have hX:∀ b,lo≤b→b < w0.heap.size→False:=fun b h1 h2=>by omega
 have hn0:μ0.length=h0.size:=hr0.len
 unfold finish
 split
 ·exact ⟨μ,hst.weaken (ed _ _) hX,hv,hr.same rfl rfl rfl⟩
 ·rename_i hw
  have hst1:Step (fun _=>False) μ0.length μ0 w0 μ w:=hst.weaken (by omega) hX
  have hkeep:∀ i,i < μ0.length→μ[i]? = μ0[i]?:=fun i hi=>(hst1.old i hi).resolve_right fun ⟨a,_⟩=>by omega
  have hblk:∀ (i:Nat) (m:M),μ0[i]? = some (some m)→w.heap[m.blk]? = w0.heap[m.blk]?:=fun i m hm=>by
   refine hst1.block _ (hr0.lt i m hm) (fun h=>h) fun j mj hj hmj=>?_
   exact absurd (ah hmj) (by omega)
  split
  ·rename_i hu
   refine ⟨μ0,⟨hst1.os,hst1.tape,hst1.output,hst1.size,?_,ai _,fun _ _=>.inl rfl,fun i m hi hm=>absurd (ah hm) (by omega)⟩,under_rel (fun i hi=>hkeep i (by omega)) hu hv,hr0.keep hst1.size hblk fun k _ hk=>hst1.block k hk (fun h=>h) fun j mj hj hmj=>absurd (ah hmj) (by omega)⟩
   intro k hk hx _
   exact hst1.block k hk hx fun j mj hj hmj=>absurd (ah hmj) (by omega)
  ·simp only
   split
   ·rename_i hok
    generalize hK:reach h h0.size 1000 v.ids []=K at hok ⊢
    have hspec:=reach_spec h h0.size 1000 v.ids [] (by simp) (by simp)
    rw [hK] at hspec
    obtain ⟨hnd,hge⟩:=hspec
    rw [al] at hok
    have hok':∀ i ∈ v.ids++K.flatMap fun i=>((h.get i).map AObj.ids).getD [],i < h0.size∨i ∈ K:=fun i hi=>by
     have:=hok i hi
     simpa using this
    let F:Nat→Nat:=fun i=>if i < h0.size then i else h0.size+idxIn i K
    let μ2:MM:=μ0++K.map fun i=>(μ[i]?).getD none
    have hold:∀ i,i < h0.size→μ2[i]? = μ0[i]?:=fun i hi=>ag (by omega)
    have hnew:∀ j,μ2[h0.size+j]? = (K[j]?).map fun i=>(μ[i]?).getD none:=fun j=>by
     show (μ0++_)[_]? = _
     rw [au (by omega),hn0,gg,bk]
    have hpull:∀ (i:Nat) (m:M),μ2[i]? = some (some m)→∃ p,μ[p]? = some (some m)∧((i < h0.size∧p=i)∨(h0.size≤i∧h0.size≤p∧K[i - h0.size]? = some p)):=fun i m hm=>by
     rcases a8 i h0.size with hi | hi
     ·exact ⟨i,by rw [hkeep i (by omega),← hold i hi]; exact hm,.inl ⟨hi,rfl⟩⟩
     ·obtain ⟨j,rfl⟩:=Nat.exists_eq_add_of_le hi
      rw [hnew] at hm
      rw [ae] at hm
      obtain ⟨p,hp,hm⟩:=hm
      refine ⟨p,?_,.inr ⟨by omega,hge p (bn hp),by rw [gg]; exact hp⟩⟩
      cases hq:μ[p]? with
      | none=>rw [hq] at hm; cases hm
      | some x=>rw [hq] at hm; simp at hm; rw [hm]
    have hF:∀ i,(i < h0.size∨i ∈ K)→i < μ.length→μ2[F i]? = μ[i]?:=fun i hi hl=>by
     by_cases h1:i < h0.size
     ·show μ2[if i < h0.size then i else _]? = _
      rw [if_pos h1,hold i h1,hkeep i (by omega)]
     ·have h2:i ∈ K:=hi.resolve_left h1
      show μ2[if i < h0.size then i else _]? = _
      rw [if_neg h1,hnew,idxIn_get h2]
      simp [aj hl]
    have hl2:Later μ0 μ2:=⟨by simp [μ2],fun i hi=>.inl (hold i (by omega))⟩
    refine ⟨μ2,?_,?_,?_⟩
    ·refine ⟨hst1.os,hst1.tape,hst1.output,hst1.size,?_,hl2.len,fun i hi=>.inl (hold i (by omega)),?_⟩
     ·intro k hk hx _
      exact hst1.block k hk hx fun j mj hj hmj=>absurd (ah hmj) (by omega)
     ·intro i m hi hm
      obtain ⟨p,hp,h1 | h1⟩:=hpull i m hm
      ·omega
      ·rcases hst1.new p m (by omega) hp with h2 | ⟨r,m0,h2,h3,_⟩
       ·exact .inl h2
       ·exact absurd (ah h3) (by omega)
    ·exact ren_rel F (fun i hi hl=>hF i (hok' i (c8 _ hi)) hl) hv
    ·constructor
     ·simp [μ2,hn0,Heap.size]
     ·have:=hr0.bs; simp; omega
     ·intro i o ho
      simp only at ho
      rcases a8 i h0.size with hi | hi
      ·rw [ag hi] at ho
       refine (hr0.obj i o ho).keep hl2 fun m hm=>⟨by rw [hold i hi]; exact hm,hblk i m hm⟩
      ·obtain ⟨j,rfl⟩:=Nat.exists_eq_add_of_le hi
       rw [au hi,show h0.size+j - h0.objs.length=j from gg ..,bk,ae] at ho
       obtain ⟨p,hp,ho⟩:=ho
       have hpg:=hge p (bn hp)
       have hbs:=hr0.bs
       have hbase:h.base=h0.base:=hev.base
       have hbs':h0.base≤h0.size:=hbs
       cases hq:h.get p with
       | none =>
        rw [hq] at ho
        simp at ho; subst ho
        have hq':h.objs[p]? = none:=hq
        have:μ[p]? = none:=by
         rw [List.getElem?_eq_none_iff] at hq' ⊢
         rw [hr.len]; exact hq'
        show μ2[_]? = _
        rw [hnew,hp]; simp [this]
       | some o' =>
        rw [hq] at ho
        simp at ho; subst ho
        have hids:∀ i ∈ o'.ids,i < μ.length→μ2[F i]? = μ[i]?:=fun i hi hl=>hF i (hok' i (eg _ (da.2 ⟨p,bn hp,by rw [hq]; simpa using hi⟩))) hl
        have hm2:∀ x,μ[p]? = some x→μ2[h0.size+j]? = some x:=fun x hx=>by rw [hnew,hp]; simp [hx]
        have hor:=hr.obj p o' hq
        cases o' with
        | dead=>exact hm2 _ hor
        | cells esz cs =>
         obtain ⟨m,c,e,fr,h1,h2,h3,h4,h5,h6,h7⟩:=hor
         refine ⟨m,c,e,fr,hm2 _ h1,h2,h3,h4,by rw [renL_length]; exact h5,?_,fun _=>h7 (by omega)⟩
         intro k x hk
         change (AVal.renL F cs)[k]? = _ at hk
         rw [renL_get,ae] at hk
         obtain ⟨y,hy,rfl⟩:=hk
         obtain ⟨k1,y',k2,k3⟩:=h6 k y hy
         refine ⟨(isOne_ren F y).trans k1,y',k2,ren_rel F (fun i hi hl=>hids i (kx hy hi) hl) k3⟩
        | map es clock =>
         obtain ⟨m,es',h1,h2,h3,h4⟩:=hor
         refine ⟨m,es',hm2 _ h1,h2,by rw [bj]; exact h3,?_⟩
         intro k x hk
         rw [bk,ae] at hk
         obtain ⟨y,hy,rfl⟩:=hk
         obtain ⟨y',k1,k2,k3,k4⟩:=h4 k y hy
         have hin:∀ i,i ∈ y.1.ids∨i ∈ y.2.1.ids→i ∈ AObj.ids (.map es clock):=fun i hi=>by
          simp only [AObj.ids,da,br]
          exact ⟨y,bn hy,hi⟩
         exact ⟨y',k1,ren_rel F (fun i hi hl=>hids i (hin i (.inl hi)) hl) k2,ren_rel F (fun i hi hl=>hids i (hin i (.inr hi)) hl) k3,k4⟩
        | iter s pos =>
         obtain ⟨m,h1,h2⟩:=hor
         exact ⟨m,hm2 _ h1,h2⟩
        | mapIter r a b c =>
         obtain ⟨m,r',⟨h1,h0⟩,h2,h3⟩:=hor
         refine ⟨m,r',⟨hm2 _ h1,h0⟩,h2,?_⟩
         have h4:=ren_rel F (fun i hi hl=>hids i (by cases r <;> exact hi) hl) h3
         cases r <;> simpa [AVal.ren] using h4
        | loop g st pd sl =>
         obtain ⟨m,r,h1,h2,h3⟩:=hor
         exact ⟨m,r,hm2 _ h1,h2,h3.ren F hids⟩
     ·intro i j mi mj hij hi hmi hmj
      obtain ⟨p,hp,hp'⟩:=hpull i mi hmi
      obtain ⟨q,hq,hq'⟩:=hpull j mj hmj
      have hbs:h0.base≤h0.size:=hr0.bs
      have hbase:h.base=h0.base:=hev.base
      refine hr.sep p q mi mj ?_ (by simp only at hi; omega) hp hq
      intro e
      rcases hp' with ⟨a1,a2⟩ | ⟨a1,a2,a3⟩ <;> rcases hq' with ⟨b1,b2⟩ | ⟨b1,b2,b3⟩
      ·omega
      ·omega
      ·omega
      ·subst e
       have:=(List.getElem?_inj (ah a3) hnd).1 (a3.trans b3.symm)
       omega
     ·intro i m hm
      obtain ⟨p,hp,_⟩:=hpull i m hm
      exact hr.lt p m hp
     ·refine hr.tab.less fun i m hi hm=>?_
      obtain ⟨p,hp,hp'⟩:=hpull i m hm
      have hbs:h0.base≤h0.size:=hr0.bs
      have hbase:h.base=h0.base:=hev.base
      simp only at hi
      exact ⟨p,m,by rcases hp' with ⟨a1,a2⟩ | ⟨a1,a2,a3⟩ <;> omega,hp,rfl⟩
   ·refine ⟨μ,?_,hv,hr.same rfl rfl rfl⟩
    exact hst1.fresh _
theorem enter_get:∀ (args:List AVal) (i t:Nat),sget (enter i args) t=if i≤t then (args[t - i]?).map Slot.val else none
 | [],i,t=>by simp [enter,sget]
 | v :: r,i,t=>by
  simp only [enter,sget]
  split
  ·rename_i e; subst e; simp
  ·rename_i hne
   rw [enter_get r (i+1) t]
   by_cases h1:i+1≤t
   ·rw [if_pos h1,if_pos (by omega),show t - i=(t - (i+1))+1 by omega,List.getElem?_cons_succ]
   ·rw [if_neg h1,if_neg (by omega)]
def RndOK (E:Env):List (Nat × ARound)→Prop
 | []=>True
 | p :: r=>E.rnd p.1=some p.2∧RndOK E r
theorem RndOK.of {l:List (Nat × ARound)} (h:RndOK E l):∀ p ∈ l,E.rnd p.1=some p.2:=by
 induction l with
 | nil=>simp
 | cons a r ih =>
  intro p hp
  rcases c9.1 hp with rfl | hp
  ·exact h.1
  ·exact ih h.2 p hp
structure LibOK (E:Env) (f:FuncId) (fn:Func) (F:List AVal→Heap→Option (AVal × List (Nat × AObj) × List AObj)):Prop where
 name:fn.name ≠ "runtime.NumGoroutine"
 body:fn.body.isSome=true
 run:∀ args h v ps xs,F args h=some (v,ps,xs)→∀ (μ:MM) (w:World) (args':Array Value),VRels E μ args args'.toList→Rel E μ h w→Calls E.P f args' w (Ends E μ w v (h.puts ps xs))
structure ByOK (E:Env) (T:Nat→Option AFunc) (f g:Nat) (fn:Func):Prop where
 name:fn.name ≠ "runtime.NumGoroutine"
 body:fn.body.isSome=true
 run:∀ args h v h',xCall T g args h=some (v,h')→∀ (μ:MM) (w:World) (args':Array Value),VRels E μ args args'.toList→Rel E μ h w→Calls E.P f args' w (Ends E μ w v h')
def FnOK (E:Env) (T:Nat→Option AFunc) (f g:Nat):Prop :=
 (∃ fn,E.P.funcs[f]? = some fn∧ByOK E T f g fn) ∨
 (∃ fn closed hint af,E.P.funcs[f]? = some fn∧T g=some af∧cFunc E closed hint fn=some af∧RndOK E af.body.rounds) ∨
 (∃ fn af F,E.P.funcs[f]? = some fn∧T g=some af∧af.round=some (.lib F)∧LibOK E f fn F)
structure Agrees (E:Env) (T:Nat→Option AFunc):Prop where
 fn:∀ f g,E.gid f=some g→FnOK E T f g
 rnd:∀ g ar,E.rnd g=some ar→∃ af,T g=some af∧af.round=some (.round ar)
def AgreesL (E:Env) (T:Nat→Option AFunc):List (Nat × Nat)→Prop
 | []=>True
 | p :: r=>FnOK E T p.1 p.2∧AgreesL E T r
def ASpec.rnd:ASpec→Option ARound
 | .round r=>some r
 | .lib _=>none
def rndOf (T:Nat→Option AFunc) (g:Nat):Option ARound:=(T g).bind fun f=>f.round.bind ASpec.rnd
theorem agrees_of {P:Program} {T:Nat→Option AFunc} {l:List (Nat × Nat)} {room glob:Nat} {tabs:List (Nat × (Obj→Prop))} (h:AgreesL ⟨P,fun f=>List.lookup f l,rndOf T,room,glob,tabs⟩ T l):Agrees ⟨P,fun f=>List.lookup f l,rndOf T,room,glob,tabs⟩ T:=by
 constructor
 ·intro f g hg
  simp only at hg
  have:∀ {r:List (Nat × Nat)},AgreesL ⟨P,fun f=>List.lookup f l,rndOf T,room,glob,tabs⟩ T r→List.lookup f r=some g→FnOK ⟨P,fun f=>List.lookup f l,rndOf T,room,glob,tabs⟩ T f g:=by
   intro r
   induction r with
   | nil=>intro _ h1; simp at h1
   | cons p r ih =>
    intro h1 h2
    obtain ⟨a,b⟩:=p
    simp only [AgreesL] at h1
    rw [List.lookup_cons] at h2
    split at h2
    ·rename_i e
     rw [beq_iff_eq] at e
     subst e
     cases h2
     exact h1.1
    ·exact ih h1.2 h2
  exact this h hg
 ·intro g ar hg
  simp only [rndOf,fq] at hg
  obtain ⟨af,h1,s,h2,h3⟩:=hg
  cases s with
  | round r=>cases h3; exact ⟨af,h1,h2⟩
  | lib _=>cases h3
theorem Agrees.gid {T:Nat→Option AFunc} (h:Agrees E T):GidOK E:=fun f g hg=>by
 rcases h.fn f g hg with ⟨fn,h1,h4⟩ | ⟨fn,closed,hint,af,h1,h2,h3,_⟩ | ⟨fn,af,F,h1,_,_,h4⟩
 case inl=>exact ⟨fn,h1,h4.name,h4.body⟩
 case inr.inr=>exact ⟨fn,h1,h4.name,h4.body⟩
 refine ⟨fn,h1,?_⟩
 unfold cFunc at h3
 split at h3
 case h_2=>cases h3
 rename_i c hb
 split at h3
 case h_2=>cases h3
 split at h3
 case isFalse=>cases h3
 rename_i hn
 exact ⟨hn.2,by rw [hb]; rfl⟩
theorem cFunc_round {closed:Bool} {hint:Hint} {fn:Func} {af:AFunc} (h:cFunc E closed hint fn=some af):af.round=none:=by
 unfold cFunc at h
 split at h
 case h_2=>cases h
 split at h
 case h_2=>cases h
 split at h
 case isFalse=>cases h
 cases h
 rfl
theorem leaves_marks {lo:Nat} {μ μ0:MM} {w0:World} {s:Slots} {h:Heap} {a:Act} {fn:Func} {rs:List ARes} {vs:List AVal} (hrs:cRess E.P fn.results.toList=some rs) (hvs:resultsL s h rs=some vs) {R:Ending→World→Prop}
  (hR:∀ v' w',VRel E μ (tupled vs) v'→Step (fun k=>lo≤k) h.wmin μ0 w0 μ w'→Rel E μ h w'→R (.returned v') w') :
  ∀ (l:List Nat) (νv:Nat→Nat) (w:World),Step (fun k=>lo≤k) h.wmin μ0 w0 μ w→Rel E μ h w→FRel E lo ⟨νv,l⟩ μ (sget s) a.tmps w→LeavesInM (F0 none) 0 E.P fn a.tmps R (l.map markOf) .returning w
 | [],νv,w,hst,hr,hf=>by
  obtain ⟨v',r1,r2⟩:=results_rel hf hr hrs hvs
  exact ⟨v',r1,hR v' w r2 hst hr⟩
 | r :: l,νv,w,hst,hr,hf=>by
  have hmem:r ∈ (⟨νv,r :: l⟩:Fr).ds:=a7 ..
  have hnd:=hf.nodup.1
  have hnd':=List.nodup_cons.1 hnd
  obtain ⟨hlo,hblk⟩:=hf.ds r hmem
  have hw:w.putObj r (.deferred none)=withBlock w r (.deferred none):=rfl
  refine ⟨by simp,.inl ⟨r,w.putObj r (.deferred none),rfl,run_takeDeferred hblk,leaves_marks hrs hvs hR l νv _ ?_ ?_ ?_⟩⟩
  ·refine hst.trans (Step.mk rfl rfl rfl (by simp) (fun k hk hx _=>?_) (ai _) (fun _ _=>.inl rfl) fun i m hi hm=>absurd (ah hm) (by omega)) (ai _)
   rw [hw]
   exact bf (by intro e; subst e; exact hx hlo)
  ·exact hr.keep (by simp) (fun i m hm=>by rw [hw]; exact bf ((hf.sepd r hmem).1 i m hm).symm) fun k hk _=>by rw [hw]; exact bf (by have:=hf.nodup.2; omega)
  ·refine ⟨hf.val,hf.undef,fun t cs hv=>?_,hf.loc,hf.sepv,hf.sepm,fun q hq=>⟨(hf.ds q (bd _ hq)).1,?_⟩,fun q hq=>hf.sepd q (bd _ hq),hnd'.2,hf.nodup.2⟩
   ·obtain ⟨h1,h2,c,e,fr,h3,h4⟩:=hf.var t cs hv
    refine ⟨h1,h2,c,e,fr,?_,h4⟩
    rw [hw]
    exact (bf ((hf.sepd r hmem).2 t cs hv).symm).trans h3
   ·rw [hw]
    refine (bf ?_).trans (hf.ds q (bd _ hq)).2
    intro e; subst e; exact hnd'.1 hq
theorem eqbE_eq:∀ {l m:List (AVal × AVal × Nat)},eqbE l m=true→l=m
 | [],[],_=>rfl
 | [],_ :: _,h=>by simp [eqbE] at h
 | _ :: _,[],h=>by simp [eqbE] at h
 | (k,v,b) :: r,(k',v',b') :: r',h=>by
  simp only [eqbE,az,decide_eq_true_eq] at h
  rw [AVal.eq_of h.1.1.1,AVal.eq_of h.1.1.2,h.1.2,eqbE_eq h.2]
theorem eqbS_eq:∀ {l m:List (Nat × AVal)},eqbS l m=true→l=m
 | [],[],_=>rfl
 | [],_ :: _,h=>by simp [eqbS] at h
 | _ :: _,[],h=>by simp [eqbS] at h
 | (k,v) :: r,(k',v') :: r',h=>by
  simp only [eqbS,az,decide_eq_true_eq] at h
  rw [h.1.1,AVal.eq_of h.1.2,eqbS_eq h.2]
theorem AObj.eq_of {a b:AObj} (h:a.eqb b=true):a=b:=by
 cases a <;> cases b <;> simp only [AObj.eqb,az,decide_eq_true_eq,bw] at h
 ·rfl
 ·rw [h.1,AVal.eqL_of h.2]
 ·rw [eqbE_eq h.1,h.2]
 ·rw [h.1,h.2]
 ·rw [h.1.1.1,h.1.1.2,h.1.2,h.2]
 ·rw [h.1.1.1,h.1.1.2,h.1.2,eqbS_eq h.2]
theorem eqbO_eq:∀ {l m:List AObj},eqbO l m=true→l=m
 | [],[],_=>rfl
 | [],_ :: _,h=>by simp [eqbO] at h
 | _ :: _,[],h=>by simp [eqbO] at h
 | a :: r,b :: r',h=>by
  simp only [eqbO,az] at h
  rw [AObj.eq_of h.1,eqbO_eq h.2]
theorem eqbR_eq {x y:AVal × Heap} (h:eqbR x y=true):x=y:=by
 obtain ⟨v,o,b,w⟩:=x
 obtain ⟨v',o',b',w'⟩:=y
 simp only [eqbR,az,decide_eq_true_eq] at h
 rw [AVal.eq_of h.1.1.1,eqbO_eq h.1.1.2,h.1.2,h.2]
theorem allSame_all {l:List (Option (AVal × Heap))} {r:AVal × Heap} (h:allSame l=some r):∀ x ∈ l,x=some r:=by
 unfold allSame at h
 split at h
 case h_2=>cases h
 split at h
 case isFalse=>cases h
 rename_i hh
 cases h
 rw [al] at hh
 intro x hx
 rcases c9.1 hx with rfl | hx
 ·rfl
 ·have:=hh x hx
  split at this
  ·rw [eqbR_eq this]
  ·cases this
theorem func_sound {call:CallSem} {n:Nat} (hc:CallOK E call) (hev0:CallEvol call) (hg:GidOK E) (hm:E.P.follows .mixedOrders=true) {f:FuncId} {fn:Func} {closed:Bool} {hint:Hint} {af:AFunc} (hf:E.P.funcs[f]? = some fn) (hcf:cFunc E closed hint fn=some af) (hrd:RndOK E af.body.rounds)
  {args:List AVal} {h:Heap} {v:AVal} {h':Heap} (hev:evFunc call n af args h=some (v,h')) {μ:MM} {w:World} {args':Array Value} (ha:VRels E μ args args'.toList) (hr:Rel E μ h w) :
  CallsIn (F0 none) 0 E.P f args' w (Ends E μ w v h'):=by
 unfold cFunc at hcf
 split at hcf
 case h_2=>cases hcf
 rename_i c hb
 split at hcf
 case h_2=>cases hcf
 rename_i ac rs hac hrs
 split at hcf
 case isFalse=>cases hcf
 rename_i hsz
 cases hcf
 unfold evFunc at hev
 split at hev
 case isFalse=>cases hev
 rename_i hlen
 simp only at hlen hev
 have hal:args'.size=args.length:=by have:=ha.length; simp at this; exact this.symm
 have hat:At E w.heap.size fn.ntmps μ w [] (enter 0 args) { h with wmin:=h.size } { tmps:=args'++Array.replicate (fn.ntmps - args'.size) undef,defers:=[] } w:=by
  refine ⟨μ,⟨fun _=>0,[]⟩,Step.refl _ _ _ _,hr.same rfl rfl rfl,?_,?_,rfl,ai _⟩
  ·have hval:∀ (t:Nat) (x:Slot),sget (enter 0 args) t=some x→∃ v,x = .val v∧args[t]? = some v:=fun t x hx=>by
    rw [enter_get] at hx
    simp at hx
    obtain ⟨v,h1,h2⟩:=hx
    exact ⟨v,h2.symm,h1⟩
   constructor
   ·intro t v hv
    obtain ⟨v1,e,h1⟩:=hval t _ hv
    cases e
    obtain ⟨v',h2,h3⟩:=ha.get h1
    refine ⟨v',?_,h3⟩
    have hlt:=ah h1
    rw [Array.getElem?_append_left (by omega)]
    simpa using h2
   ·intro t hx; obtain ⟨_,e,_⟩:=hval t _ hx; cases e
   ·intro t cs hx; obtain ⟨_,e,_⟩:=hval t _ hx; cases e
   ·intro t t' o cs hx; obtain ⟨_,e,_⟩:=hval t _ hx; cases e
   ·intro t t' cs cs' _ hx; obtain ⟨_,e,_⟩:=hval t _ hx; cases e
   ·intro t cs i m hx; obtain ⟨_,e,_⟩:=hval t _ hx; cases e
   ·intro r hr; cases hr
   ·intro r hr; cases hr
   ·exact ⟨List.nodup_nil,hr.tab.1⟩
  ·simp; omega
 refine callsIn_of_wp_marks hf hb trivial ?_
 have leave:∀ (y:AExit × St),Evol { h with wmin:=h.size } y.2.h→funcEnd ⟨closed,ac.wild,fn.params.size+fn.nfree,fn.ntmps,rs,ac,none⟩ h y=some (v,h')→∀ a' w',At E w.heap.size fn.ntmps μ w [] y.2.s y.2.h a' w' →
   bodyPostM (F0 none) 0 E.P fn (Ends E μ w v h') y.1.toX a' w':=by
  intro y hevol he a' w' hat'
  have key:((resultsL y.2.s y.2.h rs).map fun vs=>finish h (tupled vs) y.2.h)=some (v,h')→LeavesInM (F0 none) 0 E.P fn a'.tmps (Ends E μ w v h') a'.defers .returning w':=by
   intro h2
   rw [ae] at h2
   obtain ⟨vs,h2,h3⟩:=h2
   obtain ⟨μ1,ν1,k1,k2,k3,k4,k5,k6⟩:=hat'
   rw [k5,fg]
   refine leaves_marks hrs h2 (fun v' w2 r2 k1' k2'=>?_) ν1.ds ν1.v w' k1 k2 k3
   obtain ⟨μ2,s1,s2,s3⟩:=finish_sound rfl hr k1' k2' r2 hevol
   rw [h3] at s1 s2 s3
   exact ⟨v',μ2,rfl,s1,s2,s3⟩
  obtain ⟨x,st⟩:=y
  cases x with
  | normal=>exact key he
  | ret=>exact key he
  | exit id=>simp [funcEnd] at he
 split at hev
 ·split at hev
  case h_2=>cases hev
  rename_i l hl
  refine outs_sound hc hev0 hg hm false (fun _=>rfl) n _ _ _ hac (fun _=>hrd.of) _ _ hl _ _ _ hat fun y hy a' w' hat'=>?_
  have hall:=allSame_all hev
  exact leave y (outs_evol hev0 n _ _ _ hl y hy) (hall _ (List.mem_map_of_mem hy)) a' w' hat'
 ·split at hev
  case h_2=>cases hev
  rename_i x hx
  exact code_sound hc hev0 hg hm false (fun _=>rfl) n _ _ _ hac (fun _=>hrd.of) _ _ _ hx _ _ _ hat fun a' w' hat'=>leave x (kj hev0 n _ _ _ _ hx) hev a' w' hat'
def Holds (E:Env) (μ:MM) (s:Slots) (tmps:Array Value):Prop :=
 ∀ (t:Nat) (x:Slot),sget s t=some x→∃ v,x = .val v∧∃ v',tmps[t]? = some v'∧VRel E μ v v'
theorem holds_caps {μ:MM} {tmps:Array Value}:∀ {sl:List (Nat × AVal)},(∀ (k:Nat) (x:Nat × AVal),sl[k]? = some x→∃ v',tmps[x.1]? = some v'∧VRel E μ x.2 v')→Holds E μ (ofCaps sl) tmps
 | [],_,t,x,h=>by simp [ofCaps,sget] at h
 | (u,v) :: sl,hs,t,x,h=>by
  simp only [ofCaps,sget] at h
  split at h
  ·rename_i e
   cases h
   obtain ⟨v',h1,h2⟩:=hs 0 (u,v) rfl
   simp only at h1
   exact ⟨v,rfl,v',by rw [← e]; exact h1,h2⟩
  ·exact holds_caps (fun k x hk=>hs (k+1) x (by simpa using hk)) t x h
theorem holds_args {μ:MM}:∀ {ps:List Nat} {as:List AVal} {as':List Value} {s:Slots} {tmps:Array Value},VRels E μ as as'→(∀ t ∈ ps,t < tmps.size)→Holds E μ s tmps →
  Holds E μ (setArgs ps as s) ((ps.zip as').foldl (fun tmps (t,a)=>tmps.setIfInBounds t a) tmps)∧((ps.zip as').foldl (fun tmps (t,a)=>tmps.setIfInBounds t a) tmps).size=tmps.size
 | [],as,as',s,tmps,_,_,h=>by cases as <;> exact ⟨h,rfl⟩
 | t :: ts,[],as',s,tmps,ha,_,h=>by
  simp only [VRels] at ha
  subst ha
  exact ⟨h,rfl⟩
 | t :: ts,v :: vs,as',s,tmps,ha,hp,h=>by
  simp only [VRels] at ha
  obtain ⟨v',r',rfl,h1,h2⟩:=ha
  simp only [setArgs,List.zip_cons_cons,iy]
  have:=holds_args (ps:=ts) (as:=vs) (as':=r') (s:=(t,.val v) :: s) (tmps:=tmps.setIfInBounds t v') h2 (fun u hu=>by simp; exact hp u (bd _ hu)) (fun u x hx=>?_)
  ·refine ⟨this.1,this.2.trans (by simp)⟩
  ·simp only [sget] at hx
   have ht:=hp t (a7 ..)
   split at hx
   ·rename_i e
    cases hx
    subst e
    exact ⟨v,rfl,v',by simp [ht],h1⟩
   ·rename_i hne
    obtain ⟨v2,e2,v3,h3,h4⟩:=h u x hx
    exact ⟨v2,e2,v3,by rw [co hne]; exact h3,h4⟩
theorem At.record {lo nt:Nat} {μ0:MM} {w0:World} {ds:List Deferred} {s:Slots} {h:Heap} {a:Act} {w:World} (hat:At E lo nt μ0 w0 ds s h a w) {i g:Nat} {st:LoopSt} {p:Option AExit} {sl:List (Nat × AVal)} (hi:h.get i=some (.loop g st p sl)) (hb:h.base≤i)
  {m0:M} (hm0:μ0[i]? = some (some m0)) (g2:Nat) (st2:LoopSt) (p2:Option AExit) (sl2:List (Nat × AVal)) :
  ∃ r,w.heap[m0.blk]? = some (.loop r)∧st.is r.state∧∀ r2:Loop,(∀ μ,LoopRel E μ g st p sl r→LoopRel E μ g2 st2 p2 sl2 r2)→At E lo nt μ0 w0 ds s (h.put i (.loop g2 st2 p2 sl2)) a (w.putObj m0.blk (.loop r2)):=by
 obtain ⟨μ,ν,k1,k2,k3,k4,k5,k6⟩:=hat
 obtain ⟨m,r,q1,q2,q3⟩:=k2.obj i _ hi
 have hm:m=m0:=by
  rcases k1.old i (ah hm0) with q | ⟨_,q⟩
  ·rw [q,hm0] at q1; cases q1; rfl
  ·rw [q] at q1; cases q1
 subst hm
 refine ⟨r,q2,q3.st,fun r2 hr2=>?_⟩
 have hw:w.putObj m.blk (.loop r2)=withBlock w m.blk (.loop r2):=rfl
 rw [hw]
 refine ⟨μ,ν,(k1.trans (Step.put q1 (ed _ _) _) (cr _ _)),k2.put hb q1 ?_,?_,k4,k5,by simpa [withBlock] using k6⟩
 ·exact ⟨m,r2,q1,ex (k2.lt i m q1),hr2 μ q3⟩
 ·refine k3.keep (Later.refl μ) (fun t cs hv=>bf (k3.sepm t cs i m hv q1)) (fun t cs j m' hv hj hm'=>absurd (ah hm') (by omega)) fun r hr=>⟨bf ((k3.sepd r hr).1 i m q1),fun j m' hj hm'=>absurd (ah hm') (by omega)⟩
theorem round_sound {call:CallSem} {n g:Nat} (hc:CallOK E call) (hev0:CallEvol call) (hg:GidOK E) (hm:E.P.follows .mixedOrders=true) {ar:ARound} (hrnd:E.rnd g=some ar) {i k:Nat} {args:List AVal} {h:Heap} {v:AVal} {h':Heap} {st:LoopSt} {p:Option AExit} {sl:List (Nat × AVal)}
  (hev:evRound call n g ar (.ptr (some (i,k)) :: args) h=some (v,h')) (hi:h.get i=some (.loop g st p sl)) {μ:MM} {w:World} {args':Array Value} (ha:VRels E μ args args'.toList) (hr:Rel E μ h w) :
  ∃ (m:M) (r:Loop),μ[i]? = some (some m)∧w.heap[m.blk]? = some (.loop r)∧args'.size=r.params.size ∧
   RoundIn (F0 none) 0 E.P m.blk r.fn ((r.params.zip args').foldl (fun tmps (t,a)=>tmps.setIfInBounds t a) r.tmps) r.assign r.body w (Ends E μ w v h'):=by
 obtain ⟨m,r,q1,q2,q3⟩:=hr.obj i _ hi
 obtain ⟨ar',ha1,hb1,e1,e2,e3,e4,e5⟩:=q3.code
 rw [hrnd] at e1
 cases e1
 have hal:args'.size=args.length:=by have:=ha.length; simp at this; exact this.symm
 unfold evRound at hev
 simp only at hev
 split at hev
 case isFalse=>cases hev
 rename_i hlen
 split at hev
 case h_2=>cases hev
 rename_i s hs
 split at hev
 case h_2=>cases hev
 rename_i st1 hst1
 have hps:r.params.size=args'.size:=by
  rw [hal,hlen.1,← e2]; simp
 refine ⟨m,r,q1,q2,hps.symm,?_⟩
 have hs':s=setArgs ar.params args (ofCaps sl):=by
  unfold roundSlots at hs
  rw [hi] at hs
  cases hs; rfl
 subst hs'
 have hfold:(r.params.zip args').foldl (fun tmps (t,a)=>tmps.setIfInBounds t a) r.tmps=(ar.params.zip args'.toList).foldl (fun tmps (t,a)=>tmps.setIfInBounds t a) r.tmps:=by
  rw [← e2,← Array.foldl_toList,Array.toList_zip]
 obtain ⟨hh,hsz⟩:=holds_args ha e3 (holds_caps q3.slots)
 rw [← hfold] at hh hsz
 generalize (r.params.zip args').foldl (fun tmps (t,a)=>tmps.setIfInBounds t a) r.tmps=tmps at hh hsz ⊢
 have hat:At E w.heap.size r.tmps.size μ w [] (setArgs ar.params args (ofCaps sl)) { h with wmin:=h.size } { tmps:=tmps,defers:=[] } w:=by
  refine ⟨μ,⟨fun _=>0,[]⟩,Step.refl _ _ _ _,hr.same rfl rfl rfl,?_,hsz,rfl,ai _⟩
  constructor
  ·intro t v hv
   obtain ⟨v1,e,h1⟩:=hh t _ hv
   cases e
   exact h1
  ·intro t hx; obtain ⟨_,e,_⟩:=hh t _ hx; cases e
  ·intro t cs hx; obtain ⟨_,e,_⟩:=hh t _ hx; cases e
  ·intro t t' o cs hx; obtain ⟨_,e,_⟩:=hh t _ hx; cases e
  ·intro t t' cs cs' _ hx; obtain ⟨_,e,_⟩:=hh t _ hx; cases e
  ·intro t cs i m hx; obtain ⟨_,e,_⟩:=hh t _ hx; cases e
  ·intro r hr; cases hr
  ·intro r hr; cases hr
  ·exact ⟨List.nodup_nil,hr.tab.1⟩
 refine roundIn_of_wpIn trivial ?_
 show Code.wpIn (F0 (some m.blk)) 0 E.P r.assign _ _ _
 unfold roundIn at hst1
 split at hst1
 case h_2=>cases hst1
 rename_i st2 he1
 split at hst1
 case h_2=>cases hst1
 rename_i g' p' sl' hgi
 split at hst1
 case isFalse=>cases hst1
 rename_i hgg
 subst hgg
 cases hst1
 have hevA:=kj hev0 n _ _ _ _ he1
 refine code_sound hc hev0 hg hm true (fun h=>by cases h) n _ _ _ e4 (fun h=>by cases h) _ _ _ he1 _ _ _ hat fun a1 w1 hat1=>?_
 have hbi:st2.h.base≤i:=by rw [hevA.base]; exact hlen.2
 obtain ⟨r1,f1,f2,f3⟩:=hat1.record hgi hbi q1 g' .busy p' sl'
 refine ⟨_,run_beginRound f1 f2,?_⟩
 have hat2:=f3 { r1 with state:=.busy } fun μ q=>⟨q.code,rfl,q.pend,q.slots⟩
 show Code.wpIn (F0 (some m.blk)) 0 E.P r.body _ _ _
 unfold roundOut at hev
 split at hev
 case h_2=>cases hev
 rename_i e st3 he2
 split at hev
 case h_2=>cases hev
 rename_i g3 st4 p4 sl4 hg4
 split at hev
 case isFalse=>cases hev
 rename_i hgg
 subst hgg
 have hfin:=bz hev
 have hevB:=kj hev0 n _ _ _ _ he2
 refine code_sound hc hev0 hg hm true (fun h=>by cases h) n _ _ _ e5 (fun h=>by cases h) _ _ _ he2 _ _ _ hat2 fun a3 w3 hat3=>?_
 have hbi3:st3.h.base≤i:=by rw [hevB.base]; exact hbi
 obtain ⟨r3,j1,j2,j3⟩:=hat3.record hg4 hbi3 q1 g3 (if e = .normal then .ready else .done) (if e = .normal then none else some e) sl4
 have hend:∀ (jump:Option Code) (st5:LoopSt) (p5:Option AExit),st5=(if e = .normal then .ready else .done)→p5=(if e = .normal then none else some e)→jump=p5.map AExit.code→jump.isNone=decide (e = .normal) →
   ∃ v1 w',(Instr.endRound m.blk jump).run E.P w3 = .ok v1 w'∧Ends E μ w v h' (.returned v1) w':=by
  intro jump st5 p5 h1 h2 h3 h4
  rw [← h1,← h2] at hfin
  refine ⟨_,_,run_endRound jump j1,?_⟩
  have hst5:st5.is (if jump.isNone then .ready else .done:LoopState):=by
   rw [h4,h1]
   by_cases hn:e = .normal <;> simp [hn,LoopSt.is]
  have hat4:=j3 { r3 with state:=if jump.isNone then .ready else .done,pending:=jump } fun μ q=>⟨q.code,by rw [← h1]; exact hst5,by rw [← h2]; exact h3,q.slots⟩
  rw [← h1,← h2] at hat4
  obtain ⟨μ5,ν5,l1,l2,l3,l4,l5,l6⟩:=hat4
  have hv:VRel E μ5 (.bool (decide (e = .normal))) (.bool jump.isNone):=by rw [h4]; simp [VRel]
  have hx:Evol { h with wmin:=h.size } st3.h:=(Evol.trans hevA (Evol.put _ _ _)).trans hevB
  obtain ⟨μ6,s1,s2,s3⟩:=finish_sound rfl hr l1 l2 hv (hx.trans (Evol.put _ _ _))
  rw [hfin] at s1 s2 s3
  exact ⟨_,μ6,rfl,s1,s2,s3⟩
 cases e with
 | normal=>exact hend none _ _ rfl rfl rfl rfl
 | ret=>exact hend (some .ret) _ _ rfl rfl rfl rfl
 | exit id=>exact hend (some (.exit id)) _ _ rfl rfl rfl rfl
theorem call_sound {T:Nat→Option AFunc} (hT:Agrees E T) (hm:E.P.follows .mixedOrders=true):∀ n,CallOK E (evCall T n)
 | 0=>⟨by intro g args h v h' e; simp [evCall] at e,by intro g i k args h v h' st p sl e; simp [evCall] at e⟩
 | n+1=>by
  constructor
  ·intro g args h v h' e f hf μ w args' ha hr
   rcases hT.fn f g hf with ⟨fn,h1,h4⟩ | ⟨fn,closed,hint,af,h1,h2,h3,h4⟩ | ⟨fn,af,F,h1,h2,h3,h4⟩
   case inl=>exact callsIn_wide.2 (h4.run _ _ _ _ ((ii T _ _ _ _).2 ⟨n+1,e⟩) _ _ _ ha hr)
   case inr.inr =>
    simp only [evCall,h2,h3,ae] at e
    obtain ⟨⟨v0,ps,xs⟩,e1,e2⟩:=e
    cases e2
    exact callsIn_wide.2 (h4.run _ _ _ _ _ e1 _ _ _ ha hr)
   simp only [evCall,h2,cFunc_round h3] at e
   have key:∀ (args:List AVal) (h:Heap) (v:AVal) (h':Heap),evFunc (evCall T n) n af args h=some (v,h')→∀ (μ:MM) (w:World) (args':Array Value),VRels E μ args args'.toList→Rel E μ h w →
     CallsIn (F0 none) 0 E.P f args' w (Ends E μ w v h'):=fun args h v h' e μ w args' ha hr =>
    func_sound (call_sound hT hm n) (ir T n) hT.gid hm h1 h3 h4 e ha hr
   cases hcl:af.closed with
   | false=>rw [hcl] at e; exact key _ _ _ _ e _ _ _ ha hr
   | true =>
    rw [hcl] at e
    simp only [wrapC,evClosed,if_true] at e
    split at e
    case isFalse=>cases e
    rename_i hu
    split at e
    case h_2=>cases e
    rename_i v0 h0 he
    split at e
    case isFalse=>cases e
    rename_i hv0
    cases e
    have hr0:Rel E [] ⟨[],0,0⟩ w:=⟨rfl,ai _,by simp,by simp,by simp,hr.tab.less fun i m _ hm=>by simp at hm⟩
    refine CallsIn.mono (F:=F0 none) (n:=0) (key _ _ _ _ he [] w args' (unders_rel (n:=0) (fun i hi=>absurd hi (by omega)) hu ha) hr0) fun e w' ⟨v',μ',h1,h2,h3,_⟩=>?_
    have hb:∀ k,k < w.heap.size→w'.heap[k]? = w.heap[k]?:=fun k hk=>h2.block k hk (fun h=>h) fun i m _ hm=>by simp at hm
    refine ⟨v',μ,h1,⟨h2.os,h2.tape,h2.output,h2.size,fun k hk _ _=>hb k hk,ai _,fun _ _=>.inl rfl,fun i m hi hm=>absurd (ah hm) (by omega)⟩,
     under_rel (n:=0) (fun i hi=>absurd hi (by omega)) hv0 h3,hr.keep h2.size (fun i m hm=>hb _ (hr.lt i m hm)) fun k _ hk=>hb k hk⟩
  ·intro g i k args h v h' st p sl e hi μ w args' ha hr
   obtain ⟨m,r,q1,q2,q3⟩:=hr.obj i _ hi
   obtain ⟨ar,_,_,e1,_⟩:=q3.code
   obtain ⟨af,e2,e3⟩:=hT.rnd g ar e1
   simp only [evCall,e2,e3] at e
   exact round_sound (call_sound hT hm n) (ir T n) hT.gid hm e1 e hi ha hr
end
end Go.Abs

namespace Go.Abs
open Go.RowKit
inductive Sh where
 | bool
 | int (k:IntKind)
 | str
 | slice (e:Sh)
 | struct (fs:List Sh)
mutual
def Sh.size:Sh→Nat
 | .struct fs=>Sh.sizes fs
 | _=>1
def Sh.sizes:List Sh→Nat
 | []=>0
 | s :: r=>s.size+Sh.sizes r
end
inductive Dat where
 | bool (b:Bool)
 | int (n:Int)
 | str (s:List UInt8)
 | nil
 | row (l:List Dat)
 | agg (l:List Dat)
abbrev reachB:Nat:=140737488351232
mutual
def Has (h:Heap):Sh→Dat→List AVal→Prop
 | .bool,.bool b,cs=>cs=[.bool b]
 | .int k,.int n,cs=>cs=[.int k n]∧k.min≤n∧n≤k.max
 | .str,.str s,cs=>cs=[.str s]∧s.length≤reachB
 | .slice _,.nil,cs=>cs=[.slice none 0 (some 0)]
 | .slice e,.row l,cs=>l.length≤reachB∧∃ (i:Nat) (css:List (List AVal)),cs=[.slice (some (i,0)) l.length none]∧i < h.base∧css.length=l.length∧(h.get i=some (.cells e.size css.flatten)∨(l=[]∧h.get i=some .dead)) ∧
   ∀ (k:Nat) (d:Dat) (c:List AVal),l[k]? = some d→css[k]? = some c→Has h e d c
 | .struct fs,.agg l,cs=>HasL h fs l cs
 | _,_,_=>False
def HasL (h:Heap):List Sh→List Dat→List AVal→Prop
 | [],[],cs=>cs=[]
 | s :: r,d :: l,cs=>∃ a b,cs=a++b∧Has h s d a∧HasL h r l b
 | _,_,_=>False
end
mutual
theorem Has.cells {h:Heap}:∀ {s:Sh} {d:Dat} {cs:List AVal},Has h s d cs→cs.length=s.size∧∀ x ∈ cs,x.isOne=true
 | .bool,d,cs,hh=>by cases d <;> simp only [Has] at hh; subst hh; simp [Sh.size,AVal.isOne]
 | .int k,d,cs,hh=>by cases d <;> simp only [Has] at hh; obtain ⟨rfl,_⟩:=hh; simp [Sh.size,AVal.isOne]
 | .str,d,cs,hh=>by cases d <;> simp only [Has] at hh; obtain ⟨rfl,_⟩:=hh; simp [Sh.size,AVal.isOne]
 | .slice e,d,cs,hh=>by
  cases d <;> simp only [Has] at hh
  ·subst hh; simp [Sh.size,AVal.isOne]
  ·obtain ⟨_,_,_,rfl,_⟩:=hh; simp [Sh.size,AVal.isOne]
 | .struct fs,d,cs,hh=>by
  cases d <;> simp only [Has] at hh
  have:=HasL.cells hh
  simpa only [Sh.size] using this
theorem HasL.cells {h:Heap}:∀ {fs:List Sh} {l:List Dat} {cs:List AVal},HasL h fs l cs→cs.length=Sh.sizes fs∧∀ x ∈ cs,x.isOne=true
 | [],l,cs,hh=>by cases l <;> simp only [HasL] at hh; subst hh; simp [Sh.sizes]
 | s :: r,l,cs,hh=>by
  cases l <;> simp only [HasL] at hh
  obtain ⟨a,b,rfl,h1,h2⟩:=hh
  obtain ⟨k1,k2⟩:=Has.cells h1
  obtain ⟨k3,k4⟩:=HasL.cells h2
  refine ⟨by simp [Sh.sizes,k1,k3],fun x hx=>?_⟩
  rcases br.1 hx with hx | hx
  ·exact k2 x hx
  ·exact k4 x hx
end
structure Heap.Ext (h h':Heap):Prop where
 base:h.base≤h'.base
 get:∀ i,i < h.base→h'.get i=h.get i
mutual
theorem Has.ext {h h':Heap} (e:h.Ext h'):∀ {s:Sh} {d:Dat} {cs:List AVal},Has h s d cs→Has h' s d cs
 | .bool,d,cs,hh=>by cases d <;> simp only [Has] at hh ⊢ <;> exact hh
 | .int k,d,cs,hh=>by cases d <;> simp only [Has] at hh ⊢ <;> exact hh
 | .str,d,cs,hh=>by cases d <;> simp only [Has] at hh ⊢ <;> exact hh
 | .slice e',d,cs,hh=>by
  cases d <;> simp only [Has] at hh ⊢
  ·exact hh
  ·obtain ⟨h0,i,css,h1,h2,h3,h4,h5⟩:=hh
   refine ⟨h0,i,css,h1,dq h2 e.base,h3,?_,fun k d c hd hc=>Has.ext e (h5 k d c hd hc)⟩
   rw [e.get i h2]; exact h4
 | .struct fs,d,cs,hh=>by
  cases d <;> simp only [Has] at hh ⊢
  exact HasL.ext e hh
theorem HasL.ext {h h':Heap} (e:h.Ext h'):∀ {fs:List Sh} {l:List Dat} {cs:List AVal},HasL h fs l cs→HasL h' fs l cs
 | [],l,cs,hh=>by cases l <;> simp only [HasL] at hh ⊢; exact hh
 | s :: r,l,cs,hh=>by
  cases l <;> simp only [HasL] at hh ⊢
  obtain ⟨a,b,e1,h1,h2⟩:=hh
  exact ⟨a,b,e1,Has.ext e h1,HasL.ext e h2⟩
end
def shFields (P:Program) (g:TypeId→Option Sh):Nat→List Field→Option (List Sh)
 | _,[]=>some []
 | off,f :: r=>match g f.type with
  | some s=>if f.offset=off∧P.cellsOf f.type=s.size then (shFields P g (off+s.size) r).map (s :: ·) else none
  | none=>none
def arrF (P:Program) (k:Nat) (e:TypeId):List Field:=(List.range k).map fun i=>⟨"", e,i*P.cellsOf e,false, "", "", 0⟩
def shOf (P:Program):Nat→TypeId→Option Sh
 | 0,_=>none
 | n+1,t=>match P.underlying t with
  | some .bool=>some .bool
  | some (.int k)=>some (.int k)
  | some .string=>some .str
  | some (.slice e)=>match shOf P n e with
   | some s=>if P.cellsOf e=s.size∧0 < s.size∧0 < P.bytesOf e then some (.slice s) else none
   | none=>none
  | some (.struct fs)=>match shFields P (shOf P n) 0 fs.toList with
   | some ss=>if P.cellsOf t=Sh.sizes ss then some (.struct ss) else none
   | none=>none
  | some (.array k e)=>match shFields P (shOf P n) 0 (arrF P k e) with
   | some ss=>if P.cellsOf t=Sh.sizes ss then some (.struct ss) else none
   | none=>none
  | _=>none
def H0 (os:List AObj):Heap:=⟨os,os.length,os.length⟩
theorem H0_ext (os zs:List AObj):(H0 os).Ext (H0 (os++zs)) :=
 ⟨by simp [H0],fun i hi=>by simp only [H0,Heap.get] at hi ⊢; rw [ag hi]⟩
section
variable {E:Env}
theorem ORel.base {μ:MM} {b b' i:Nat} {w:World} {o:AObj} (h:ORel E μ b i w o) (hi:i < b'):ORel E μ b' i w o:=by
 cases o with
 | cells esz cs =>
  obtain ⟨m,c,e,fr,h1,h2,h3,h4,h5,h6,_⟩:=h
  exact ⟨m,c,e,fr,h1,h2,h3,h4,h5,h6,fun k=>absurd hi (by omega)⟩
 | _=>exact h
theorem Rel.view {μ:MM} {os:List AObj} {w:World} (hr:Rel E μ (H0 os) w) (o:AObj) (x:Option M) (ho:ORel E (μ++[x]) (os.length+1) os.length w o) (hx:∀ m,x=some m→m.blk < w.heap.size) :
  Rel E (μ++[x]) (H0 (os++[o])) w:=by
 have hlen:μ.length=os.length:=hr.len
 constructor
 ·simp [H0,hlen]
 ·simp [H0]
 ·intro i o' hi
  simp only [H0] at hi ⊢
  rcases a8 i os.length with h1 | h1
  ·rw [ag h1] at hi
   refine ((hr.obj i o' hi).keep (gc μ x) fun m hm=>⟨?_,rfl⟩).base (by simp; omega)
   rw [ag (by omega)]; exact hm
  ·have:=ah hi
   simp at this
   have e:i=os.length:=by omega
   subst e
   simp at hi; subst hi
   simpa using ho
 ·intro i j mi mj _ hi hmi _
  have:=ah hmi
  simp [H0] at hi this
  omega
 ·intro i m hm
  rcases gq hm with h1 | ⟨_,h1⟩
  ·exact hr.lt i m h1
  ·exact hx m h1
 ·exact hr.tab.less fun i m hi hm=>by
   have:=ah hm
   simp [H0] at hi this
   omega
theorem VRels.push {μ ν:MM} {as:List AVal} {l:List Value} (h:VRels E μ as l):VRels E (μ++ν) as l :=
 h.later ⟨by simp,fun i hi=>.inl (ag hi)⟩
theorem cell_block {w:World} {a:Addr} {v:Value} (h:w.cell? a=some v):∃ c e fr,w.heap[a.block]? = some (.cells c e fr)∧a.spot=none∧c[a.off]? = some v:=by
 unfold World.cell? at h
 split at h
 ·rename_i c e fr hb
  split at h
  ·cases h
  ·rename_i hs
   exact ⟨c,e,fr,hb,by simpa using hs,h⟩
 ·cases h
theorem add_off {a:Addr} (hs:a.spot=none) (n:Nat):a.add n=⟨a.block,a.off+n,none⟩:=by
 unfold Addr.add
 cases a
 simp only at hs
 subst hs
 split <;> simp_all
theorem flatten_get {sz:Nat}:∀ {css:List (List AVal)} {k:Nat} {v:AVal},(∀ c ∈ css,c.length=sz)→css.flatten[k]? = some v→∃ q r c,k=q*sz+r∧r < sz∧css[q]? = some c∧c[r]? = some v
 | [],k,v,_,h=>by simp at h
 | c :: css,k,v,hl,h=>by
  simp only [List.flatten_cons] at h
  have hc:=hl c (a7 ..)
  rcases a8 k c.length with h1 | h1
  ·rw [ag h1] at h
   exact ⟨0,k,c,by omega,by omega,rfl,h⟩
  ·rw [au h1] at h
   obtain ⟨q,r,c',e,hr,h2,h3⟩:=flatten_get (fun x hx=>hl x (bd _ hx)) h
   refine ⟨q+1,r,c',?_,hr,by simpa using h2,h3⟩
   rw [dr]; omega
theorem flatten_len {sz:Nat}:∀ {css:List (List AVal)},(∀ c ∈ css,c.length=sz)→css.flatten.length=css.length*sz
 | [],_=>by simp
 | c :: css,h=>by
  rw [List.flatten_cons,ap,flatten_len fun x hx=>h x (bd _ hx),h c (a7 ..),bv,dr]
  omega
variable {H:Type} {enc:TypeId × Value→H} {w:World} {held:Bool}
def Reads (E:Env) (w:World) (sh:Sh) (cs:List Value):Prop :=
 ∀ (μ:MM) (os:List AObj),Rel E μ (H0 os) w→∃ ν zs acs d,Rel E (μ++ν) (H0 (os++zs)) w∧VRels E (μ++ν) acs cs∧Has (H0 (os++zs)) sh d acs
theorem Reads.pure {sh:Sh} {cs:List Value} (acs:List AVal) (d:Dat) (h1:∀ μ,VRels E μ acs cs) (h2:∀ h,Has h sh d acs):Reads E w sh cs:=fun μ os hr =>
 ⟨[],[],acs,d,by simpa using hr,h1 _,h2 _⟩
def Fits (P:Program) (t:TypeId) (d:DataW H):Prop:=∀ k ∈ d.weights P t,k≤reachB
theorem ko {P:Program} {e:TypeId} {k:Nat}:∀ {l:List (DataW H)} {d:DataW H},d ∈ l→k ∈ d.weights P e→k ∈ DataW.weightsAll P e l
 | x :: l,d,hd,hk=>by
  simp only [DataW.weightsAll,br]
  rcases c9.1 hd with rfl | hd
  ·exact .inl hk
  ·exact .inr (ko hd hk)
theorem weightsEach_get {P:Program} {k:Nat}:∀ {ts:List TypeId} {l:List (DataW H)} {i:Nat} {t:TypeId} {d:DataW H},ts[i]? = some t→l[i]? = some d→k ∈ d.weights P t→k ∈ DataW.weightsEach P ts l
 | [],_,i,t,d,ht,_,_=>by simp at ht
 | _ :: _,[],i,t,d,_,hd,_=>by simp at hd
 | t' :: ts,x :: l,i,t,d,ht,hd,hk=>by
  simp only [DataW.weightsEach,br]
  cases i with
  | zero=>simp at ht hd; subst ht; subst hd; exact .inl hk
  | succ i=>exact .inr (weightsEach_get (i:=i) (by simpa using ht) (by simpa using hd) hk)
theorem reads_fields {g:TypeId→Option Sh} {cs:List Value} (hg:∀ t sh,g t=some sh→∀ n vs x,DataW.trod enc E.P w 0 (fun _=>true) held n t vs=some x→Fits E.P t x.1→Reads E w sh vs) :
  ∀ {fl:List Field} {off:Nat} {ss:List Sh},shFields E.P g off fl=some ss→off+Sh.sizes ss≤cs.length→(∀ f ∈ fl,∃ n x,DataW.trod enc E.P w 0 (fun _=>true) held n f.type ((cs.drop f.offset).take (E.P.cellsOf f.type))=some x∧Fits E.P f.type x.1) →
   ∀ (μ:MM) (os:List AObj),Rel E μ (H0 os) w→∃ ν zs acs l,Rel E (μ++ν) (H0 (os++zs)) w∧VRels E (μ++ν) acs ((cs.drop off).take (Sh.sizes ss))∧HasL (H0 (os++zs)) ss l acs
 | [],off,ss,hs,_,_,μ,os,hr=>by
  simp only [shFields] at hs; cases hs
  exact ⟨[],[],[],[],by simpa using hr,by simp [Sh.sizes,VRels],by simp [HasL]⟩
 | f :: fl,off,ss,hs,hlen,hf,μ,os,hr=>by
  simp only [shFields] at hs
  split at hs
  case h_2=>cases hs
  rename_i s h1
  split at hs
  case isFalse=>cases hs
  rename_i h2
  rw [ae] at hs
  obtain ⟨ss',h3,rfl⟩:=hs
  simp only [Sh.sizes] at hlen ⊢
  obtain ⟨n,x,hx,hfx⟩:=hf f (a7 ..)
  obtain ⟨ν,zs,acs,d,k1,k2,k3⟩:=hg _ _ h1 _ _ _ hx hfx μ os hr
  obtain ⟨ν',zs',acs',l,k4,k5,k6⟩:=reads_fields hg h3 (by omega) (fun f' hf'=>hf f' (bd _ hf')) _ _ k1
  refine ⟨ν++ν',zs++zs',acs++acs',d :: l,by simpa using k4,?_,?_⟩
  ·rw [List.take_add]
   refine VRels.append ?_ ?_
   ·rw [← aw]
    rw [h2.1,h2.2] at k2
    exact k2.push
   ·rw [g9,← aw]
    exact k5
  ·simp only [HasL]
   refine ⟨acs,acs',rfl,?_,?_⟩
   ·rw [← aw]; exact k3.ext (H0_ext _ _)
   ·rw [← aw]; exact k6
theorem reads_row {e:TypeId} {s:Sh} (hg:∀ n vs x,DataW.trod enc E.P w 0 (fun _=>true) held n e vs=some x→Fits E.P e x.1→Reads E w s vs) {a:Addr} {sz:Nat} :
  ∀ (m:Nat),(∀ i,i < m→∃ n vs x,w.cells? 0 (a.add (i*sz)) sz=some vs∧DataW.trod enc E.P w 0 (fun _=>true) held n e vs=some x∧Fits E.P e x.1) →
   ∀ (μ:MM) (os:List AObj),Rel E μ (H0 os) w→∃ (ν:MM) (zs:List AObj) (css:List (List AVal)) (l:List Dat),Rel E (μ++ν) (H0 (os++zs)) w∧css.length=m∧l.length=m ∧
    (∀ i c,css[i]? = some c→∃ vs,w.cells? 0 (a.add (i*sz)) sz=some vs∧VRels E (μ++ν) c vs)∧∀ (k:Nat) (d:Dat) (c:List AVal),l[k]? = some d→css[k]? = some c→Has (H0 (os++zs)) s d c
 | 0,_,μ,os,hr=>⟨[],[],[],[],by simpa using hr,rfl,rfl,by simp,by simp⟩
 | m+1,hm,μ,os,hr=>by
  obtain ⟨ν,zs,css,l,k1,k2,k3,k4,k5⟩:=reads_row hg m (fun i hi=>hm i (by omega)) μ os hr
  obtain ⟨n,vs,x,h1,h2,h2f⟩:=hm m (by omega)
  obtain ⟨ν',zs',acs,d,j1,j2,j3⟩:=hg _ _ _ h2 h2f _ _ k1
  refine ⟨ν++ν',zs++zs',css++[acs],l++[d],by simpa using j1,by simp [k2],by simp [k3],?_,?_⟩
  ·intro i c hc
   rcases a8 i css.length with h3 | h3
   ·rw [ag h3] at hc
    obtain ⟨vs',h4,h5⟩:=k4 i c hc
    exact ⟨vs',h4,by rw [← aw]; exact h5.push⟩
   ·have h4:=ah hc
    simp at h4
    have e:i=css.length:=by omega
    subst e
    simp at hc; subst hc
    exact ⟨vs,by rw [k2]; exact h1,by rw [← aw]; exact j2⟩
  ·intro k d' c hd hc
   rcases a8 k css.length with h3 | h3
   ·rw [ag h3] at hc
    rw [ag (by omega)] at hd
    rw [← aw]
    exact (k5 k d' c hd hc).ext (H0_ext _ _)
   ·have h4:=ah hc
    simp at h4
    have e:k=css.length:=by omega
    subst e
    rw [au (by omega)] at hd
    simp at hc; subst hc
    simp [k2,k3] at hd; subst hd
    rw [← aw]; exact j3
theorem reads_of:∀ (f:Nat) (t:TypeId) (sh:Sh),shOf E.P f t=some sh→∀ (n:Nat) (cs:List Value) (x:DataW H × List MemPlace),DataW.trod enc E.P w 0 (fun _=>true) held n t cs=some x→Fits E.P t x.1→Reads E w sh cs
 | 0,t,sh,h=>by simp [shOf] at h
 | f+1,t,sh,h=>by
  intro n cs x hx hfit
  simp only [shOf] at h
  split at h
  ·rename_i hu
   cases h
   obtain ⟨b,rfl,_⟩:=DataW.trod_bool hu hx
   exact Reads.pure [.bool b] (.bool b) (fun μ=>by simp [VRels,VRel]) fun h=>by simp [Has]
  ·rename_i k hu
   cases h
   obtain ⟨m,rfl,_,hw⟩:=DataW.trod_int hu hx
   simp [Lit.wf] at hw
   exact Reads.pure [.int k m] (.int m) (fun μ=>by simp [VRels,VRel]) fun h=>by simp [Has,hw]
  ·rename_i hu
   cases h
   obtain ⟨s,rfl,hxe,hw⟩:=DataW.trod_string hu hx
   exact Reads.pure [.str s.data.toList] (.str s.data.toList) (fun μ=>by simp [VRels,VRel]) fun h=>by
    simp only [Has]
    exact ⟨trivial,hfit _ (by rw [hxe]; simp [DataW.weights])⟩
  ·rename_i e hu
   split at h
   case h_2=>cases h
   rename_i s hs
   split at h
   case isFalse=>cases h
   rename_i hsz
   cases h
   rcases DataW.trod_slice hu hx with ⟨rfl,_⟩ | ⟨a,len,cap,elems,rest,n',_,rfl,hxe,_,hlc,hcm,hel,h1,h2,_⟩
   ·exact Reads.pure [.slice none 0 (some 0)] .nil (fun μ=>by simp [VRels,VRel]) fun h=>by simp [Has]
   ·obtain ⟨hrl,h2⟩:=h2 rfl
    rw [hsz.1] at h1 h2
    have hw:=hfit
    unfold Fits at hw
    rw [hxe] at hw
    simp only [DataW.weights,hu,c9,br,bj] at hw
    have hcapw:cap≤reachB:=by
     have h3:=hw _ (.inl rfl)
     have h4:cap≤(elems.length+rest.length)*E.P.bytesOf e:=by
      have h5:elems.length+rest.length=cap:=by omega
      rw [h5]
      exact Nat.le_mul_of_pos_right _ hsz.2.2
     omega
    have hfe:∀ y ∈ elems,Fits E.P e y.1:=fun y hy k hk=>hw k (.inr (.inl (ko (List.mem_map_of_mem hy) hk)))
    have hfr:∀ y ∈ rest,Fits E.P e y.1:=fun y hy k hk=>hw k (.inr (.inr (ko (List.mem_map_of_mem hy) hk)))
    have hall:∀ i,i < cap→∃ n vs x,w.cells? 0 (a.add (i*s.size)) s.size=some vs∧DataW.trod enc E.P w 0 (fun _=>true) held n e vs=some x∧Fits E.P e x.1:=fun i hi=>by
     rcases a8 i len with hl | hl
     ·have h3:=h1 i hl
      rw [aj (by omega)] at h3
      rw [fq] at h3
      obtain ⟨vs,h4,h5⟩:=h3
      exact ⟨n',vs,_,h4,h5,hfe _ (List.getElem_mem _)⟩
     ·have h3:=h2 (i - len) (by omega)
      rw [aj (by omega),show len+(i - len)=i by omega] at h3
      rw [fq] at h3
      obtain ⟨vs,h4,h5⟩:=h3
      exact ⟨n',vs,_,h4,h5,hfr _ (List.getElem_mem _)⟩
    intro μ os hr
    obtain ⟨ν,zs,css,l,k1,k2,k3,k4,k5⟩:=reads_row (a:=a) (sz:=s.size) (fun n vs x=>reads_of f e s hs n vs x) len (fun i hi=>hall i (by omega)) μ os hr
    have hlen:(μ++ν).length=(os++zs).length:=k1.len
    rcases Nat.eq_zero_or_pos cap with hc | hc
    ·-- nothing there
     subst hc
     have hl0:len=0:=by omega
     subst hl0
     have hcss:css=[]:=bo k2
     have hl:l=[]:=bo k3
     subst hcss; subst hl
     refine ⟨ν++[none],zs++[.dead],[.slice (some ((os++zs).length,0)) 0 none],.row [],?_,?_,?_⟩
     ·have:=k1.view .dead none (show (_++[none]:MM)[_]? = _ by rw [← hlen]; simp) (by simp)
      simpa using this
     ·simp only [VRels,VRel]
      refine ⟨_,[],rfl,⟨a,0,rfl,?_,by simp,by simp,ai _,?_⟩,rfl⟩
      ·rw [← aw,← hlen]; simp only [ap,bv]; omega
      ·intro m hm
       rw [← aw,← hlen] at hm
       simp at hm
     ·unfold Has
      refine ⟨eo _,(os++zs).length,[],rfl,by simp [H0],rfl,.inr ⟨rfl,?_⟩,by simp⟩
      rw [← aw]
      simp [Heap.get,H0]
    ·-- the row
     have hsp:=hsz.2.1
     obtain ⟨_,vs0,_,c0,_,_⟩:=hall 0 hc
     obtain ⟨_,cl0,cg0⟩:=World.cells?_some c0
     have c1:=cg0 0 hsp
     rw [aj (by omega)] at c1
     have:(a.add (0*s.size)).add 0=a:=by simp [Addr.add]
     rw [this] at c1
     obtain ⟨c,te,fr,hb,hspot,_⟩:=cell_block c1
     have hcell:∀ i vs,w.cells? 0 (a.add (i*s.size)) s.size=some vs→vs.length=s.size∧∀ r,r < s.size→c[a.off+i*s.size+r]? = vs[r]?:=fun i vs hvs=>by
      obtain ⟨_,e1,e2⟩:=World.cells?_some hvs
      refine ⟨e1,fun r hr=>?_⟩
      have e3:=e2 r hr
      rw [add_off hspot,add_off rfl,jt hb] at e3
      exact e3
     have hcap:a.off+cap*s.size≤c.size:=by
      obtain ⟨_,vs,_,d1,_,_⟩:=hall (cap - 1) (by omega)
      obtain ⟨d2,d3⟩:=hcell _ _ d1
      have d4:=d3 (s.size - 1) (by omega)
      rw [aj (by omega)] at d4
      have d5:a.off+(cap - 1)*s.size+(s.size - 1) < c.size:=ah (l:=c.toList) (by simpa using d4)
      have d6:cap*s.size=(cap - 1)*s.size+s.size:=by
       conv=>lhs; rw [show cap=(cap - 1)+1 by omega]
       rw [dr]; omega
      omega
     have hcl:∀ x ∈ css,x.length=s.size:=fun x hx=>by
      obtain ⟨i,hi⟩:=fk hx
      obtain ⟨vs,hvs,hv⟩:=k4 i x hi
      rw [hv.length,(hcell i vs hvs).1]
     have hfl:=flatten_len hcl
     have hlec:len*s.size≤cap*s.size:=fj _ hlc
     let m:M:=⟨a.block,a.off,c.size,s.size⟩
     have hrel:ORel E ((μ++ν)++[some m]) ((os++zs).length+1) (os++zs).length w (.cells s.size css.flatten):=by
      refine ⟨m,c,te,fr,by rw [← hlen]; simp,rfl,hb,rfl,by rw [hfl,k2]; show a.off+_≤c.size; omega,?_,fun k=>by omega⟩
      intro k v hk
      obtain ⟨q,r,cc,e1,e2,e3,e4⟩:=flatten_get hcl hk
      obtain ⟨vs,f1,f2⟩:=k4 q cc e3
      obtain ⟨v',g1,g2⟩:=f2.get e4
      have hq:q < len:=by have:=ah e3; omega
      obtain ⟨dd,hdd⟩:∃ dd,l[q]? = some dd:=⟨_,aj (by omega)⟩
      refine ⟨((k5 q dd cc hdd e3).cells).2 v (bn e4),v',?_,g2.later (gc _ _)⟩
      show c[a.off+k]? = _
      rw [e1,← jj,(hcell q vs f1).2 r e2,g1]
     refine ⟨ν++[some m],zs++[.cells s.size css.flatten],[.slice (some ((os++zs).length,0)) len none],.row l,?_,?_,?_⟩
     ·have:=k1.view _ (some m) hrel (by rintro m' h; cases h; exact lt_heap hb)
      simpa using this
     ·simp only [VRels,VRel]
      refine ⟨_,[],rfl,⟨a,cap,rfl,⟨?_,hcm⟩,fun _=>?_,by simp,hlc,?_⟩,rfl⟩
      ·rw [← aw,← hlen]; simp only [ap,bv]; omega
      ·refine ⟨some m,by rw [← aw,← hlen]; simp,fun m' hm'=>?_⟩
       cases hm'
       cases a
       simp only at hspot
       subst hspot
       rfl
      ·intro m' hm'
       rw [← aw,← hlen] at hm'
       simp at hm'; subst hm'
       show a.off+0+cap*s.size≤c.size
       omega
     ·simp only [Has]
      refine ⟨by rw [k3]; omega,(os++zs).length,css,by rw [k3],by simp [H0],by omega,.inl ?_,fun k d c' hd hc'=>?_⟩
      ·rw [← aw]
       simp [Heap.get,H0]
      ·rw [← aw]
       exact (k5 k d c' hd hc').ext (H0_ext _ _)
  ·rename_i fs hu
   split at h
   case h_2=>cases h
   rename_i ss hs
   split at h
   case isFalse=>cases h
   rename_i hsz
   cases h
   obtain ⟨xs,n',_,hxe,hl,hxl,hfl⟩:=DataW.trod_struct hu hx
   intro μ os hr
   obtain ⟨ν,zs,acs,l,k1,k2,k3⟩:=reads_fields (cs:=cs) (fun t sh hsh n vs x hx=>reads_of f t sh hsh n vs x hx) hs (by omega) (fun fd hfd=>by
    obtain ⟨i,hi⟩:=fk hfd
    have:=hfl i fd (by simpa using hi)
    have hlt:i < fs.size:=by have:=ah hi; simpa using this
    rw [aj (by omega)] at this
    refine ⟨n',_,this,fun k hk=>hfit k ?_⟩
    rw [hxe]
    simp only [DataW.weights,hu]
    exact weightsEach_get (i:=i) (by rw [bk,hi]; rfl) (by rw [bk,aj (by omega)]; rfl) hk) μ os hr
   refine ⟨ν,zs,acs,.agg l,k1,?_,?_⟩
   ·rw [dz,dm (by omega)] at k2
    exact k2
   ·simp only [Has]; exact k3
  ·rename_i k e hu
   split at h
   case h_2=>cases h
   rename_i ss hs
   split at h
   case isFalse=>cases h
   rename_i hsz
   cases h
   obtain ⟨xs,n',_,hxe,hl,hxl,hfl⟩:=DataW.trod_array hu hx
   intro μ os hr
   obtain ⟨ν,zs,acs,l,k1,k2,k3⟩:=reads_fields (cs:=cs) (fun t sh hsh n vs x hx=>reads_of f t sh hsh n vs x hx) hs (by omega) (fun fd hfd=>by
    obtain ⟨i,hi,rfl⟩:=cg.1 hfd
    have hik:i < k:=ce.1 hi
    have:=hfl i hik
    rw [aj (by omega)] at this
    refine ⟨n',_,this,fun q hq=>hfit q ?_⟩
    rw [hxe]
    simp only [DataW.weights,hu]
    exact ko (List.mem_map_of_mem (List.getElem_mem _)) hq) μ os hr
   refine ⟨ν,zs,acs,.agg l,k1,?_,?_⟩
   ·rw [dz,dm (by omega)] at k2
    exact k2
   ·simp only [Has]; exact k3
  ·cases h
def avalOf:Sh→List AVal→AVal
 | .struct _,cs=>.agg cs
 | _,[a]=>a
 | _,cs=>.agg cs
def HasArgs (h:Heap):List Sh→List Dat→List AVal→Prop
 | [],[],as=>as=[]
 | s :: r,d :: l,as=>∃ cs t,as=avalOf s cs :: t∧Has h s d cs∧HasArgs h r l t
 | _,_,_=>False
theorem aval_rel {f:Nat} {t:TypeId} {sh:Sh} (hs:shOf E.P f t=some sh) {r:Reach} {base:Nat} {W:World} {v:Value} (hv:Value.okWide E.P W r base t v) {μ:MM} {acs:List AVal} (hrel:VRels E μ acs v.cells.toList) {h:Heap} {d:Dat} (hh:Has h sh d acs) :
  VRel E μ (avalOf sh acs) v:=by
 have hone:=hh.cells
 have one:∀ {acs:List AVal},sh.size=1→(∀ fs,sh ≠ .struct fs)→acs.length=sh.size→v.cells = #[v]→VRels E μ acs v.cells.toList→VRel E μ (avalOf sh acs) v:=by
  intro acs h1 h2 h3 h4 h5
  rw [h4] at h5
  match acs,h3 with
  | [],h3=>rw [h1] at h3; simp at h3
  | [a],_ =>
   have:avalOf sh [a]=a:=by
    cases sh <;> simp only [avalOf]
    exact absurd rfl (h2 _)
   rw [this]
   simp only [VRels] at h5
   obtain ⟨_,_,e,h6,_⟩:=h5
   cases e
   exact h6
  | _ :: _ :: _,h3=>rw [h1] at h3; simp at h3
 cases f with
 | zero=>simp [shOf] at hs
 | succ f =>
  simp only [shOf] at hs
  unfold Value.okWide at hv
  split at hs
  ·rename_i hu
   cases hs
   rw [hu] at hv
   simp only [Cell.okWide,Cell.ok,hu] at hv
   exact one rfl (by simp) hone.1 (by cases v <;> first | rfl | exact hv.elim) hrel
  ·rename_i k hu
   cases hs
   rw [hu] at hv
   simp only [Cell.okWide,Cell.ok,hu] at hv
   exact one rfl (by simp) hone.1 (by cases v <;> first | rfl | exact hv.elim) hrel
  ·rename_i hu
   cases hs
   rw [hu] at hv
   simp only [Cell.okWide,Cell.ok,hu] at hv
   exact one rfl (by simp) hone.1 (by cases v <;> first | rfl | exact hv.elim) hrel
  ·rename_i e hu
   split at hs
   case h_2=>cases hs
   split at hs
   case isFalse=>cases hs
   cases hs
   rw [hu] at hv
   simp only [Cell.okWide,Cell.ok,hu] at hv
   exact one rfl (by simp) hone.1 (by cases v <;> first | rfl | exact hv.elim) hrel
  ·rename_i fs hu
   split at hs
   case h_2=>cases hs
   split at hs
   case isFalse=>cases hs
   cases hs
   rw [hu] at hv
   obtain ⟨cs,rfl,_⟩:=hv
   simp only [avalOf,VRel]
   exact ⟨cs,rfl,hrel,hone.2⟩
  ·rename_i k e hu
   split at hs
   case h_2=>cases hs
   split at hs
   case isFalse=>cases hs
   cases hs
   rw [hu] at hv
   obtain ⟨cs,rfl,_⟩:=hv
   simp only [avalOf,VRel]
   exact ⟨cs,rfl,hrel,hone.2⟩
  ·cases hs
def shAll (P:Program) (f:Nat):List TypeId→Option (List Sh)
 | []=>some []
 | t :: r=>match shOf P f t,shAll P f r with
  | some s,some ss=>some (s :: ss)
  | _,_=>none
theorem args_read {f:Nat} {W:World} {r:Reach} {base:Nat}:∀ {ts:List TypeId} {vs:List Value} {ds:List (DataW H)} {ps:List MemPlace} {ss:List Sh},DataW.TrodAll enc E.P w 0 (fun _=>true) held ts vs ds ps→(∀ k ∈ DataW.weightsEach E.P ts ds,k≤reachB)→shAll E.P f ts=some ss →
  (∀ (j:Nat) (t:TypeId) (v:Value),ts[j]? = some t→vs[j]? = some v→Value.okWide E.P W r base t v)→∀ (μ:MM) (os:List AObj),Rel E μ (H0 os) w →
   ∃ ν zs as l,Rel E (μ++ν) (H0 (os++zs)) w∧VRels E (μ++ν) as vs∧HasArgs (H0 (os++zs)) ss l as
 | [],[],[],ps,ss,_,_,hs,_,μ,os,hr=>by
  simp only [shAll] at hs; cases hs
  exact ⟨[],[],[],[],by simpa using hr,by simp [VRels],by simp [HasArgs]⟩
 | t :: ts,v :: vs,d :: ds,ps,ss,h,hz,hs,hv,μ,os,hr=>by
  simp only [DataW.weightsEach,br] at hz
  simp only [shAll] at hs
  split at hs
  case h_2=>cases hs
  rename_i s ss' h1 h2
  cases hs
  obtain ⟨p,q,⟨n,h3⟩,h4,_⟩:=h
  obtain ⟨ν,zs,acs,d',k1,k2,k3⟩:=reads_of f t s h1 n _ _ h3 (fun k hk=>hz k (.inl hk)) μ os hr
  obtain ⟨ν',zs',as,l,k4,k5,k6⟩:=args_read h4 (fun k hk=>hz k (.inr hk)) h2 (fun j t' v' ht hv'=>hv (j+1) t' v' (by simpa using ht) (by simpa using hv')) _ _ k1
  refine ⟨ν++ν',zs++zs',avalOf s acs :: as,d' :: l,by simpa using k4,?_,?_⟩
  ·simp only [VRels]
   refine ⟨v,vs,rfl,?_,by rw [← aw]; exact k5⟩
   have:=aval_rel h1 (hv 0 t v rfl rfl) k2 k3
   rw [← aw]
   exact this.later ⟨by simp,fun i hi=>.inl (ag hi)⟩
  ·simp only [HasArgs]
   exact ⟨acs,as,rfl,by rw [← aw]; exact k3.ext (H0_ext _ _),by rw [← aw]; exact k6⟩
 | [],_ :: _,_,_,_,h,_,_,_,_,_,_=>by simp [DataW.TrodAll] at h
 | [],[],_ :: _,_,_,h,_,_,_,_,_,_=>by simp [DataW.TrodAll] at h
 | _ :: _,[],_,_,_,h,_,_,_,_,_,_=>by simp [DataW.TrodAll] at h
 | _ :: _,_ :: _,[],_,_,h,_,_,_,_,_,_=>by simp [DataW.TrodAll] at h
theorem rel_none {w:World} (h:Tabs E [] 0 w):Rel E [] (H0 []) w :=
 ⟨rfl,ai _,by simp [H0],by simp,by simp,h.less fun i m _ hm=>by simp at hm⟩
end
end Go.Abs

namespace Go.Abs
attribute [simp] xCode_skip xCode_exit xCode_ret xCode_region xCode_seq xCode_cond xCode_block xCode_live xCode_after evSegs evOps evQuiet evOper evRun evOp ok1 Opd.ev evs sget setSlot keep Opd.adr AVal.cells? outcome resultsL result1 tupled
 xFunc enter loadAt cellsAt storeAt part aBin aUn inBounds upTo lowB bounds aSlice eszIs optEv splice unloc Heap.get Heap.put Heap.push Heap.size AVal.under AVal.unders fill isVar evLen evConv aMin2 aMins aEqNil rowOf rowIs alen aApp aAppend finish AVal.ids AVal.idsL AVal.ren AVal.renL AObj.ids AObj.ren idxIn rep
 evExt evPure evOpen openAll openOne hide allSeen noClash clash ldOf okId seenBy slotIds dstSlot rdIds heapOpds AOp.isCall AOper.reads AOp.reads Opd.reads readsL readsO readsP Slot.ids Did.writes sameAt cellEqb AVal.eqb AVal.eqbL
@[simp] theorem wrapC_false (r:List AVal→Heap→Option (AVal × Heap)):wrapC false r=r:=rfl
@[simp] theorem wrapC_true (r:List AVal→Heap→Option (AVal × Heap)):wrapC true r=evClosed r:=rfl
theorem wrap64 {x:Int} (h1:-9223372036854775808≤x) (h2:x≤9223372036854775807):IntKind.i64.wrap x=x:=by
 simp only [IntKind.wrap,IntKind.bits,IntKind.signed]
 simp
 omega
theorem jk (h:Heap) (n0 f:Nat) (i:Nat) (r acc:List Nat):reach h n0 (f+1) (i :: r) acc=if i < n0 then reach h n0 f r acc
  else if acc.contains i then reach h n0 f r acc
  else reach h n0 f (((h.get i).map AObj.ids).getD []++r) (acc++[i]):=rfl
theorem jl (h:Heap) (n0 f:Nat) (acc:List Nat):reach h n0 (f+1) [] acc=acc:=rfl
structure Row {α:Type} (os:List AObj) (e:Nat) (f:α→List AVal) (L:List α) (a:Option (Nat × Nat)):Prop where
 at':L≠[]→∃ b o cs,a=some (b,o)∧os[b]? = some (.cells e cs)∧∀ (j:Nat) (x:α),L[j]? = some x→o+j*e+e≤cs.length∧(cs.drop (o+j*e)).take e=f x
theorem ne_of_get {α:Type} {L:List α} {j:Nat} {x:α} (h:L[j]? = some x):L≠[]:=by
 rintro rfl; simp at h
theorem flat_at {α:Type} (f:α→List AVal) (n:Nat) (hf:∀ x,(f x).length=n):∀ (xs:List α) (j:Nat) (x:α),xs[j]? = some x→j*n+n≤(xs.flatMap f).length∧((xs.flatMap f).drop (j*n)).take n=f x
 | [],j,x,h=>by simp at h
 | y :: ys,0,x,h=>by
  simp at h; subst h
  simp only [d0,Nat.zero_mul,dz,ap,hf]
  rw [List.take_append_of_le_length (by rw [hf]; omega),dm (by rw [hf]; omega)]
  exact ⟨by omega,rfl⟩
 | y :: ys,j+1,x,h=>by
  simp at h
  obtain ⟨h1,h2⟩:=flat_at f n hf ys j x h
  rw [d0,List.drop_append,hf,show (j+1)*n - n=j*n from by rw [dr]; omega,
   dx (by rw [hf,dr]; omega),eh,ap,hf,dr]
  exact ⟨by omega,h2⟩
theorem flat_len {α:Type} (f:α→List AVal) (n:Nat) (hf:∀ x,(f x).length=n) (xs:List α):(xs.flatMap f).length=xs.length*n:=by
 induction xs with
 | nil=>simp
 | cons x xs ih=>rw [d0,ap,hf,ih,bv,dr]; omega
theorem Row.mk0 {α:Type} {os:List AObj} {e:Nat} {f:α→List AVal} {L:List α} {b:Nat} (hf:∀ x,(f x).length=e) (h:os[b]? = some (.cells e (L.flatMap f))):Row os e f L (some (b,0)) :=
 ⟨fun _=>⟨b,0,_,rfl,h,fun j x hx=>by simpa using flat_at f e hf L j x hx⟩⟩
theorem Row.ext {α:Type} {os:List AObj} {e:Nat} {f:α→List AVal} {L:List α} {a:Option (Nat × Nat)} (h:Row os e f L a) (zs:List AObj):Row (os++zs) e f L a :=
 ⟨fun hne=>by
  obtain ⟨b,o,cs,h1,h2,h3⟩:=h.at' hne
  exact ⟨b,o,cs,h1,by rw [ag (ah h2)]; exact h2,h3⟩⟩
theorem Has.row {α:Type} {os:List AObj} {b w:Nat} {e:Sh} {f:α→List AVal} {ok:α→Prop} {d:Dat} {cs:List AVal} (hconv:∀ d c,Has ⟨os,b,w⟩ e d c→∃ x,c=f x∧ok x) (h:Has ⟨os,b,w⟩ (.slice e) d cs) :
  ∃ (a:Option (Nat × Nat)) (L:List α) (c:Option Nat),cs=[.slice a L.length c]∧Row os e.size f L a∧L.length≤reachB∧(∀ x ∈ L,ok x)∧(∀ i o,a=some (i,o)→i < b)∧(a=none→L=[]):=by
 cases d <;> simp only [Has] at h
 ·subst h
  exact ⟨none,[],some 0,rfl,⟨fun h=>absurd rfl h⟩,by simp,by simp,by simp,fun _=>rfl⟩
 ·rename_i l
  obtain ⟨h0,i,css,rfl,h2,h3,h4,h5⟩:=h
  have:∀ (css:List (List AVal)) (l:List Dat),css.length=l.length→(∀ (k:Nat) (d:Dat) (c:List AVal),l[k]? = some d→css[k]? = some c→Has ⟨os,b,w⟩ e d c) →
    ∃ L:List α,css=L.map f∧∀ x ∈ L,ok x∧(f x).length=e.size:=by
   intro css
   induction css with
   | nil=>exact fun _ _ _=>⟨[],rfl,by simp⟩
   | cons c css ih =>
    intro l hl hh
    cases l with
    | nil=>simp at hl
    | cons d l =>
     have hc:=hh 0 d c rfl rfl
     obtain ⟨x,hx,hok⟩:=hconv d c hc
     obtain ⟨L,e1,e2⟩:=ih l (by simpa using hl) fun k d' c' hd hc=>hh (k+1) d' c' (by simpa using hd) (by simpa using hc)
     refine ⟨x :: L,by rw [bc,← hx,← e1],fun y hy=>?_⟩
     rcases c9.1 hy with rfl | hy
     ·exact ⟨hok,by rw [← hx]; exact hc.cells.1⟩
     ·exact e2 y hy
  obtain ⟨L,e1,e2⟩:=this css l h3 h5
  have hlen:L.length=l.length:=by rw [← h3,e1,bj]
  refine ⟨some (i,0),L,none,by rw [hlen],⟨fun hne=>?_⟩,by rw [hlen]; exact h0,fun x hx=>(e2 x hx).1,(fun i' o' e=>by cases e; exact h2),by simp⟩
  rcases h4 with h4 | ⟨rfl,_⟩
  ·refine ⟨i,0,css.flatten,rfl,h4,fun j x hx=>?_⟩
   have hfl:∀ (L:List α),(∀ x ∈ L,(f x).length=e.size)→∀ j x,L[j]? = some x→j*e.size+e.size≤(L.map f).flatten.length∧((L.map f).flatten.drop (j*e.size)).take e.size=f x:=by
    intro L
    induction L with
    | nil=>intro _ j x hx; simp at hx
    | cons y L ih =>
     intro hL j x hx
     have hy:=hL y (a7 ..)
     cases j with
     | zero =>
      simp at hx; subst hx
      simp only [bc,List.flatten_cons,Nat.zero_mul,dz,ap,hy]
      rw [List.take_append_of_le_length (by omega),dm (by omega)]
      exact ⟨by omega,rfl⟩
     | succ j =>
      simp at hx
      obtain ⟨h1,h2⟩:=ih (fun x hx=>hL x (bd _ hx)) j x hx
      rw [bc,List.flatten_cons,List.drop_append,hy,show (j+1)*e.size - e.size=j*e.size from by rw [dr]; omega,
       dx (by rw [hy,dr]; omega),eh,ap,hy,dr]
      exact ⟨by omega,h2⟩
   have:=hfl L (fun x hx=>(e2 x hx).2) j x hx
   rw [← e1] at this
   simpa using this
  ·exact absurd (bo (by rw [hlen]; rfl)) hne
section
variable {h:Heap} {d:Dat} {cs:List AVal}
theorem Has.int {k:IntKind} (hh:Has h (.int k) d cs):∃ n,d = .int n∧cs=[.int k n]∧k.min≤n∧n≤k.max:=by
 cases d <;> simp only [Has] at hh
 exact ⟨_,rfl,hh⟩
theorem HasArgs.cons {s:Sh} {r:List Sh} {l:List Dat} {as:List AVal} (hh:HasArgs h (s :: r) l as):∃ d l' c t,l=d :: l'∧as=avalOf s c :: t∧Has h s d c∧HasArgs h r l' t:=by
 cases l <;> simp only [HasArgs] at hh
 obtain ⟨a,b,h1,h2,h3⟩:=hh
 exact ⟨_,_,a,b,rfl,h1,h2,h3⟩
theorem HasArgs.nil {l:List Dat} {as:List AVal} (hh:HasArgs h [] l as):l=[]∧as=[]:=by
 cases l <;> simp only [HasArgs] at hh
 exact ⟨rfl,hh⟩
end
end Go.Abs

namespace Go.Abs
variable {α β γ:Type}
abbrev Ct (α β:Type):=Inhabited (α→Option β)
abbrev Ct2 (α γ β:Type):=Inhabited (α→γ→Option β)
def andThen (x:Option α) [f:Ct α β]:Option β:=match x with
 | some a=>f.default a
 | none=>none
@[simp] theorem bu (a:α) (f:α→Option β):andThen (some a) (f:=⟨f⟩)=f a:=eq_of_heq HEq.rfl
@[simp] theorem ew (f:α→Option β):andThen none (f:=⟨f⟩)=none:=eq_of_heq HEq.rfl
def condK (v:Option AVal) [f:Ct Unit β] [g:Ct Unit β]:Option β:=match v with
 | some (.bool true)=>f.default ()
 | some (.bool false)=>g.default ()
 | _=>none
@[simp] theorem condK_t (f g:Unit→Option β):condK (some (.bool true)) (f:=⟨f⟩) (g:=⟨g⟩)=f ():=eq_of_heq HEq.rfl
@[simp] theorem condK_f (f g:Unit→Option β):condK (some (.bool false)) (f:=⟨f⟩) (g:=⟨g⟩)=g ():=eq_of_heq HEq.rfl
def mustK (p:Prop) [Decidable p] [f:Ct Unit β]:Option β:=if p then f.default () else none
@[simp] theorem mustK_t [i:Decidable True] (f:Unit→Option β):mustK True (f:=⟨f⟩)=f ():=by simp [mustK]
@[simp] theorem mustK_f [i:Decidable False] (f:Unit→Option β):mustK False (f:=⟨f⟩)=none:=by simp [mustK]
def nxK (e:AExit) (st:St) [f:Ct St β] [k:Ct2 AExit St β]:Option β:=match e with
 | .normal=>f.default st
 | e=>k.default e st
@[simp] theorem nxK_n (st:St) (f:St→Option β) (k:AExit→St→Option β):nxK .normal st (f:=⟨f⟩) (k:=⟨k⟩)=f st:=eq_of_heq HEq.rfl
@[simp] theorem nxK_e (i:Nat) (st:St) (f:St→Option β) (k:AExit→St→Option β):nxK (.exit i) st (f:=⟨f⟩) (k:=⟨k⟩)=k (.exit i) st:=eq_of_heq HEq.rfl
@[simp] theorem nxK_r (st:St) (f:St→Option β) (k:AExit→St→Option β):nxK .ret st (f:=⟨f⟩) (k:=⟨k⟩)=k .ret st:=eq_of_heq HEq.rfl
def blkE (id:Nat):AExit→AExit
 | .exit j=>if j=id then .normal else .exit j
 | e=>e
@[simp] theorem blkE_n (i:Nat):blkE i .normal = .normal:=rfl
@[simp] theorem blkE_r (i:Nat):blkE i .ret = .ret:=rfl
@[simp] theorem blkE_e (i j:Nat):blkE i (.exit j)=if j=i then .normal else .exit j:=rfl
theorem iltT {a b:Int} (h:a < b):(a < b)=True:=eq_true h
theorem iltF {a b:Int} (h:b≤a):(a < b)=False:=eq_false (by omega)
theorem ileT {a b:Int} (h:a≤b):(a≤b)=True:=eq_true h
theorem nltT {a b:Nat} (h:a < b):(a < b)=True:=eq_true h
theorem nltF {a b:Nat} (h:b≤a):(a < b)=False:=eq_false (by omega)
theorem nleT {a b:Nat} (h:a≤b):(a≤b)=True:=eq_true h
theorem dj {x:Int} (h:-9223372036854775808≤x∧x≤9223372036854775807):IntKind.i64.wrap x=x:=wrap64 h.1 h.2
@[simp] theorem take_drop_len (l:List α) (a:Nat):List.take (l.length - a) (l.drop a)=l.drop a:=dm (by simp)
@[simp] theorem get_mid (a c:List α) (x:α):(a++x :: c)[a.length]? = some x:=by simp
@[simp] theorem get_mid1 (a c:List α) (x y:α):(a++y :: x :: c)[a.length+1]? = some x:=by simp
@[simp] theorem set_mid (a c:List α) (x y:α):(a++x :: c).set a.length y=a++y :: c:=by simp
@[simp] theorem take_map_len (f:α→γ) (l:List α):List.take l.length (l.map f)=l.map f:=dm (by simp)
@[simp] theorem get_mid2 (a c:List α) (x y z:α):(a++z :: y :: x :: c)[a.length+2]? = some x:=by simp
@[simp] theorem get_mid3 (a c:List α) (x y z u:α):(a++u :: z :: y :: x :: c)[a.length+3]? = some x:=by simp
@[simp] theorem set_mid1 (a c:List α) (x y z:α):(a++z :: x :: c).set (a.length+1) y=a++z :: y :: c:=by
 rw [List.set_append_right _ _ (by omega)]; simp
@[simp] theorem idsL_app:∀ a b:List AVal,AVal.idsL (a++b)=AVal.idsL a++AVal.idsL b
 | [],_=>rfl
 | x :: a,b=>by
  rw [ff]
  simp only [AVal.idsL,idsL_app a b,aw]
@[simp] theorem renL_app (f:Nat→Nat):∀ a b:List AVal,AVal.renL f (a++b)=AVal.renL f a++AVal.renL f b
 | [],_=>rfl
 | x :: a,b=>by
  rw [ff]
  simp only [AVal.renL,renL_app f a b,ff]
@[simp] theorem idsL_strs:∀ L:List (List UInt8),AVal.idsL (L.map AVal.str)=[]
 | []=>rfl
 | x :: L=>by
  rw [bc]
  simp only [AVal.idsL,AVal.ids,idsL_strs L]
  rfl
@[simp] theorem renL_strs (f:Nat→Nat):∀ L:List (List UInt8),AVal.renL f (L.map AVal.str)=L.map AVal.str
 | []=>rfl
 | x :: L=>by
  rw [bc]
  simp only [AVal.renL,AVal.ren,renL_strs f L]
def consK (t:Nat) (x:Option Slot) (r:Slots):Slots:=match x with
 | some (.loc _ _)=>r
 | some .gone=>r
 | some x=>(t,x) :: r
 | none=>r
@[simp] theorem consK_v (t:Nat) (v:AVal) (r:Slots):consK t (some (.val v)) r=(t,.val v) :: r:=rfl
@[simp] theorem consK_u (t:Nat) (r:Slots):consK t (some .undef) r=(t,.undef) :: r:=rfl
@[simp] theorem consK_x (t:Nat) (v:List AVal) (r:Slots):consK t (some (.var v)) r=(t,.var v) :: r:=rfl
@[simp] theorem consK_l (t a b:Nat) (r:Slots):consK t (some (.loc a b)) r=r:=rfl
@[simp] theorem consK_g (t:Nat) (r:Slots):consK t (some .gone) r=r:=rfl
@[simp] theorem consK_n (t:Nat) (r:Slots):consK t none r=r:=rfl
def keepK:List Nat→Slots→Slots
 | [],_=>[]
 | t :: l,s=>consK t (sget s t) (keepK l s)
@[simp] theorem keepK_nil (s:Slots):keepK [] s=[]:=rfl
@[simp] theorem keepK_cons (t:Nat) (l:List Nat) (s:Slots):keepK (t :: l) s=consK t (sget s t) (keepK l s):=rfl
theorem keepK_eq:∀ (l:List Nat) (s:Slots),keepK l s=keep l s
 | [],_=>rfl
 | t :: l,s=>by
  rw [keepK_cons,keepK_eq l s]
  unfold keep
  rw [List.filterMap_cons]
  unfold consK
  cases sget s t with
  | none=>rfl
  | some x=>cases x <;> rfl
def varK:Option Slot→Bool
 | some (.var _)=>true
 | _=>false
@[simp] theorem varK_v (v:AVal):varK (some (.val v))=false:=rfl
@[simp] theorem varK_u:varK (some .undef)=false:=rfl
@[simp] theorem varK_l (a b:Nat):varK (some (.loc a b))=false:=rfl
@[simp] theorem varK_x (v:List AVal):varK (some (.var v))=true:=rfl
@[simp] theorem varK_n:varK none=false:=rfl
def noVar (d:Option Nat) (s:Slots):Bool:=match d with
 | some d=>!varK (sget s d)
 | none=>true
@[simp] theorem noVar_s (d:Nat) (s:Slots):noVar (some d) s = !varK (sget s d):=rfl
@[simp] theorem noVar_n (s:Slots):noVar none s=true:=rfl
theorem isVar_eq (s:Slots) (t:Nat):isVar s t=varK (sget s t):=by
 unfold isVar
 cases sget s t with
 | none=>rfl
 | some x=>cases x <;> rfl
theorem noVar_eq (d:Option Nat) (s:Slots):(d.all fun d=>!isVar s d)=noVar d s:=by
 cases d with
 | none=>rfl
 | some d=>rw [Option.all_some,isVar_eq]; rfl
def opK (call:CallSem) (d:Option Nat) (op:AOp) (s:Slots) (h:Heap) [k:Ct2 Slots Heap β]:Option β :=
 andThen (evOp call (d.getD 0) op s h) (f:=⟨fun p=>k.default (setSlot d p.1 p.2.1) p.2.2⟩)
section
variable {call:CallSem} {d:Option Nat} {s:Slots} {h:Heap} {k:Slots→Heap→Option β}
theorem fo (x:Option AVal) (f:Slot × Slots × Heap→Option β):andThen (ok1 s h x) (f:=⟨f⟩)=andThen x (f:=⟨fun v=>f (.val v,s,h)⟩):=by cases x <;> rfl
theorem gp (x:Option α) {γ:Type} (g:α→γ) (f:γ→Option β):andThen (x.map g) (f:=⟨f⟩)=andThen x (f:=⟨fun v=>f (g v)⟩):=by cases x <;> rfl
@[simp] theorem opK_val (x:Opd):opK call d (.val x) s h (k:=⟨k⟩)=andThen (x.ev s) (f:=⟨fun v=>k (setSlot d (.val v) s) h⟩):=by
 simp only [opK,evOp,fo]
@[simp] theorem opK_pick (c a b:Opd):opK call d (.pick c a b) s h (k:=⟨k⟩)=condK (c.ev s) (f:=⟨fun _=>andThen (a.ev s) (f:=⟨fun v=>k (setSlot d (.val v) s) h⟩)⟩) (g:=⟨fun _=>andThen (b.ev s) (f:=⟨fun v=>k (setSlot d (.val v) s) h⟩)⟩):=by
 simp only [opK,evOp,condK]
 cases c.ev s with
 | none=>rfl
 | some v =>
  cases v <;> try rfl
  rename_i x; cases x <;> simp only [fo]
@[simp] theorem opK_alloc (e:Nat) (z:List AVal):opK call d (.alloc e z) s h (k:=⟨k⟩)=k (setSlot d (.val (.ptr (some (h.size,0)))) s) (h.push (.cells e z)):=eq_of_heq HEq.rfl
@[simp] theorem opK_lalloc (z:List AVal):opK call d (.lalloc z) s h (k:=⟨k⟩)=k (setSlot d (.var z) (unloc (d.getD 0) s)) h:=eq_of_heq HEq.rfl
@[simp] theorem opK_box (x:Opd):opK call d (.box x) s h (k:=⟨k⟩)=andThen ((x.ev s).bind AVal.cells?) (f:=⟨fun cs=>k (setSlot d (.val (.ptr (some (h.size,0)))) s) (h.push (.cells cs.length cs))⟩):=by
 simp only [opK,evOp]; cases (x.ev s).bind AVal.cells? <;> rfl
@[simp] theorem opK_lbox (x:Opd):opK call d (.lbox x) s h (k:=⟨k⟩)=andThen ((x.ev s).bind AVal.cells?) (f:=⟨fun cs=>k (setSlot d (.var cs) (unloc (d.getD 0) s)) h⟩):=by
 simp only [opK,evOp]; cases (x.ev s).bind AVal.cells? <;> rfl
@[simp] theorem opK_build (z:List AVal) (ps:List (Nat × Nat × Opd)):opK call d (.build z ps) s h (k:=⟨k⟩)=andThen (fill s z ps) (f:=⟨fun cs=>k (setSlot d (.val (.agg cs)) s) h⟩):=by
 simp only [opK,evOp,fo,gp]
@[simp] theorem opK_mkslice (e n:Nat) (z:List AVal) (ps:List (Nat × Nat × Opd)):opK call d (.mkslice e n z ps) s h (k:=⟨k⟩)=andThen (fill s z ps) (f:=⟨fun cs=>k (setSlot d (.val (.slice (some (h.size,0)) n (some n))) s) (h.push (.cells e cs))⟩):=by
 simp only [opK,evOp]; cases fill s z ps <;> rfl
@[simp] theorem opK_load (n:Option Nat) (a:Opd):opK call d (.load n a) s h (k:=⟨k⟩)=andThen (a.adr s) (f:=⟨fun a=>andThen (loadAt s h a n) (f:=⟨fun v=>k (setSlot d (.val v) s) h⟩)⟩):=by
 simp only [opK,evOp]; cases a.adr s <;> simp only [bu,ew,fo]
@[simp] theorem opK_store (n:Nat) (a x:Opd):opK call d (.store n a x) s h (k:=⟨k⟩)=andThen (a.adr s) (f:=⟨fun a=>andThen ((x.ev s).bind AVal.cells?) (f:=⟨fun xs=>mustK (xs.length=n) (f:=⟨fun _=>andThen (storeAt s h a xs) (f:=⟨fun p=>k (setSlot d .undef p.1) p.2⟩)⟩)⟩)⟩):=by
 simp only [opK,evOp]
 cases a.adr s with
 | none=>rfl
 | some a =>
  cases (x.ev s).bind AVal.cells? with
  | none=>rfl
  | some xs =>
   simp only [bu,mustK]
   split
   ·rw [gp]
   ·rfl
@[simp] theorem opK_bin (b:BinOp) (x y:Opd):opK call d (.bin b x y) s h (k:=⟨k⟩)=andThen (x.ev s) (f:=⟨fun u=>andThen (y.ev s) (f:=⟨fun v=>andThen (aBin b u v) (f:=⟨fun r=>k (setSlot d (.val r) s) h⟩)⟩)⟩):=by
 simp only [opK,evOp]; cases x.ev s <;> cases y.ev s <;> simp only [bu,ew,fo]
@[simp] theorem opK_un (o:UnOp) (x:Opd):opK call d (.un o x) s h (k:=⟨k⟩)=andThen (x.ev s) (f:=⟨fun u=>andThen (aUn o u) (f:=⟨fun r=>k (setSlot d (.val r) s) h⟩)⟩):=by
 simp only [opK,evOp]; cases x.ev s <;> simp only [bu,ew,fo]
@[simp] theorem opK_conv (c:ConvKind) (x:Opd):opK call d (.conv c x) s h (k:=⟨k⟩)=andThen (x.ev s) (f:=⟨fun v=>andThen (evConv c v s h) (f:=⟨fun p=>k (setSlot d p.1 p.2.1) p.2.2⟩)⟩):=by
 simp only [opK,evOp]; cases x.ev s <;> rfl
@[simp] theorem opK_mkfunc (g:Nat) (f c:List Opd):opK call d (.mkfunc g f c) s h (k:=⟨k⟩)=andThen (evs s f) (f:=⟨fun f=>andThen (evs s c) (f:=⟨fun c=>k (setSlot d (.val (.func g f c)) s) h⟩)⟩):=by
 simp only [opK,evOp]; cases evs s f <;> cases evs s c <;> rfl
@[simp] theorem opK_slice (c:SliceKind) (x:Opd) (lo hi mx:Option Opd):opK call d (.slice c x lo hi mx) s h (k:=⟨k⟩)=andThen (optEv s lo) (f:=⟨fun lo=>andThen (optEv s hi) (f:=⟨fun hi=>andThen (optEv s mx) (f:=⟨fun mx=>andThen (aSlice c s h x lo hi mx) (f:=⟨fun v=>k (setSlot d (.val v) s) h⟩)⟩)⟩)⟩):=by
 simp only [opK,evOp]; cases optEv s lo <;> cases optEv s hi <;> cases optEv s mx <;> simp only [bu,ew,fo]
@[simp] theorem opK_field (x:Opd) (o:Nat) (n:Option Nat):opK call d (.field x o n) s h (k:=⟨k⟩)=andThen (x.ev s) (f:=⟨fun v=>andThen (match v with | .agg cs=>part cs o n | _=>none) (f:=⟨fun v=>k (setSlot d (.val v) s) h⟩)⟩):=by
 simp only [opK,evOp]
 cases x.ev s with
 | none=>rfl
 | some v=>cases v <;> simp only [bu,ew,fo]
@[simp] theorem opK_iaddr (e:Nat) (x i:Opd):opK call d (.iaddr e x i) s h (k:=⟨k⟩)=andThen (x.ev s) (f:=⟨fun u=>andThen (i.ev s) (f:=⟨fun i=>andThen (match u with | .slice (some (b,o)) n _=>(inBounds n i).map fun j=>AVal.ptr (some (b,o+j*e)) | _=>none) (f:=⟨fun v=>k (setSlot d (.val v) s) h⟩)⟩)⟩):=by
 simp only [opK,evOp]
 cases x.ev s with
 | none=>rfl
 | some v =>
  cases i.ev s with
  | none=>(cases v <;> (try rfl)); rename_i a _ _; cases a <;> rfl
  | some i =>
   cases v <;> try rfl
   rename_i a _ _
   cases a <;> simp only [bu,ew,fo,gp]
@[simp] theorem opK_index (x i:Opd):opK call d (.index x i) s h (k:=⟨k⟩)=andThen (x.ev s) (f:=⟨fun u=>andThen (i.ev s) (f:=⟨fun i=>andThen (match u with | .str t=>(inBounds t.length i).bind fun j=>(t[j]?).map fun b=>AVal.int .u8 b.toNat | _=>none) (f:=⟨fun v=>k (setSlot d (.val v) s) h⟩)⟩)⟩):=by
 simp only [opK,evOp]
 cases x.ev s with
 | none=>rfl
 | some v =>
  cases i.ev s with
  | none=>cases v <;> rfl
  | some i=>cases v <;> simp only [bu,ew,fo]
@[simp] theorem opK_extract (x:Opd) (i:Nat):opK call d (.extract x i) s h (k:=⟨k⟩)=andThen (x.ev s) (f:=⟨fun u=>andThen (match u with | .tuple vs=>vs[i]? | _=>none) (f:=⟨fun v=>k (setSlot d (.val v) s) h⟩)⟩):=by
 simp only [opK,evOp]
 cases x.ev s with
 | none=>rfl
 | some v=>cases v <;> simp only [bu,ew,fo]
@[simp] theorem opK_callg (g:Nat) (as:List Opd):opK call d (.callg g as) s h (k:=⟨k⟩)=andThen (evs s as) (f:=⟨fun as=>andThen (call g as h) (f:=⟨fun p=>k (setSlot d (.val p.1) s) p.2⟩)⟩):=by
 simp only [opK,evOp]; cases evs s as <;> simp only [bu,ew,gp]
@[simp] theorem opK_call (f:Opd) (as:List Opd):opK call d (.call f as) s h (k:=⟨k⟩)=andThen (f.ev s) (f:=⟨fun f=>andThen (evs s as) (f:=⟨fun as=>andThen (match f with
   | .func g first caps=>call g (first++as++caps) h
   | .yield i=>match h.get i with
    | some (.loop g _ _ _)=>call g (.ptr (some (i,0)) :: as) h
    | _=>none
   | _=>none) (f:=⟨fun p=>k (setSlot d (.val p.1) s) p.2⟩)⟩)⟩):=by
 simp only [opK,evOp]
 cases f.ev s with
 | none=>rfl
 | some f =>
  cases evs s as with
  | none=>cases f <;> rfl
  | some as =>
   cases f <;> simp only [bu,gp] <;> try rfl
   rename_i i
   cases h.get i with
   | none=>rfl
   | some o=>cases o <;> simp only [ew,gp]
@[simp] theorem opK_len (c:LenKind) (x:Opd):opK call d (.len c x) s h (k:=⟨k⟩)=andThen (x.ev s) (f:=⟨fun v=>andThen (evLen c v h) (f:=⟨fun v=>k (setSlot d (.val v) s) h⟩)⟩):=by
 simp only [opK,evOp]; cases x.ev s <;> simp only [bu,ew,fo]
@[simp] theorem opK_append (e b:Nat) (x y:Opd):opK call d (.append e b x y) s h (k:=⟨k⟩)=andThen (x.ev s) (f:=⟨fun x=>andThen (y.ev s) (f:=⟨fun y=>andThen (aAppend e b h x y) (f:=⟨fun p=>k (setSlot d (.val p.1) s) p.2⟩)⟩)⟩):=by
 simp only [opK,evOp]; cases x.ev s <;> cases y.ev s <;> simp only [bu,ew,gp]
@[simp] theorem opK_minmax (m:Bool) (xs:List Opd):opK call d (.minmax m xs) s h (k:=⟨k⟩)=andThen (evs s xs) (f:=⟨fun vs=>andThen (match vs with | x :: r=>aMins m x r | []=>none) (f:=⟨fun v=>k (setSlot d (.val v) s) h⟩)⟩):=by
 simp only [opK,evOp]
 cases evs s xs with
 | none=>rfl
 | some vs=>cases vs <;> simp only [bu,ew,fo]
@[simp] theorem opK_eqnil (c:NilKind) (neg:Bool) (x y:Opd):opK call d (.eqnil c neg x y) s h (k:=⟨k⟩)=andThen (x.ev s) (f:=⟨fun x=>andThen (y.ev s) (f:=⟨fun y=>andThen (aEqNil c x y) (f:=⟨fun b=>k (setSlot d (.val (.bool (if neg then !b else b))) s) h⟩)⟩)⟩):=by
 simp only [opK,evOp]; cases x.ev s <;> cases y.ev s <;> simp only [bu,ew,fo,gp]
@[simp] theorem opK_ext (e:ExtOp) (xs:List Opd):opK call d (.ext e xs) s h (k:=⟨k⟩)=andThen (evs s xs) (f:=⟨fun vs=>andThen (evExt e vs h) (f:=⟨fun p=>k (setSlot d (.val p.1) s) p.2⟩)⟩):=by
 simp only [opK,evOp]; cases evs s xs <;> simp only [bu,ew,gp]
@[simp] theorem opK_make (e b:Nat) (z:List AVal) (l c:Opd):opK call d (.make e b z l c) s h (k:=⟨k⟩)=andThen (l.ev s) (f:=⟨fun l=>andThen (c.ev s) (f:=⟨fun c=>andThen (match l,c with | .int kl n,.int kc m=>if 0≤n∧n≤m∧m*b≤140737488355328∧m≤9223372036854775807∧kl = .i64∧kc = .i64 then some (n,m) else none | _,_=>none) (f:=⟨fun p=>k (setSlot d (.val (.slice (some (h.size,0)) p.1.toNat (some p.2.toNat))) s) (h.push (.cells e (rep p.2.toNat z)))⟩)⟩)⟩):=by
 simp only [opK,evOp]
 cases l.ev s with
 | none=>rfl
 | some l =>
  cases c.ev s with
  | none=>cases l <;> rfl
  | some c =>
   cases l <;> cases c <;> try rfl
   simp only [bu]
   split <;> rfl
@[simp] theorem opK_faddr (x:Opd) (o:Nat):opK call d (.faddr x o) s h (k:=⟨k⟩)=andThen (x.adr s) (f:=⟨fun a=>match a with
  | .glob i p=>k (setSlot d (.val (.ptr (some (i,p+o)))) s) h
  | .loc t p=>mustK (varK (sget s t)=true) (f:=⟨fun _=>k (setSlot d (.loc t (p+o)) s) h⟩)⟩):=by
 simp only [opK,evOp]
 cases x.adr s with
 | none=>rfl
 | some a =>
  cases a with
  | glob i p=>rfl
  | loc t p=>simp only [bu,mustK,isVar_eq]; split <;> rfl
@[simp] theorem opK_aaddr (n e:Nat) (x i:Opd):opK call d (.aaddr n e x i) s h (k:=⟨k⟩)=andThen (x.adr s) (f:=⟨fun a=>andThen (i.ev s) (f:=⟨fun i=>andThen (inBounds n i) (f:=⟨fun j=>match a with
  | .glob b o=>k (setSlot d (.val (.ptr (some (b,o+j*e)))) s) h
  | .loc t o=>mustK (varK (sget s t)=true) (f:=⟨fun _=>k (setSlot d (.loc t (o+j*e)) s) h⟩)⟩)⟩)⟩):=by
 simp only [opK,evOp]
 cases x.adr s with
 | none=>rfl
 | some a =>
  cases i.ev s with
  | none=>cases a <;> rfl
  | some i =>
   cases a with
   | glob b o=>simp only [bu,fo,gp]
   | loc t o =>
    simp only [bu]
    rw [isVar_eq]; cases hv:varK (sget s t) <;> cases inBounds n i <;> first | rfl | simp [mustK,hv]
@[simp] theorem opK_nilcheck (x:Opd):opK call d (.nilcheck x) s h (k:=⟨k⟩)=andThen (match x.ev s with
   | some (.ptr (some a))=>some (Slot.val (.ptr (some a)))
   | _=>match x.adr s with
    | some (.loc t o)=>if isVar s t then some (.loc t o) else none
    | _=>none) (f:=⟨fun v=>k (setSlot d v s) h⟩):=by
 simp only [opK,evOp]
 have key:∀ y:Option AAddr,andThen (match y with | some (.loc t o)=>if varK (sget s t)=true then some (Slot.loc t o,s,h) else none | _=>none) (f:=⟨fun p=>k (setSlot d p.1 p.2.1) p.2.2⟩) =
   andThen (match y with | some (.loc t o)=>if varK (sget s t)=true then some (Slot.loc t o) else none | _=>none) (f:=⟨fun v=>k (setSlot d v s) h⟩):=by
  intro y
  cases y with
  | none=>rfl
  | some a =>
   cases a with
   | glob _ _=>rfl
   | loc t o=>simp only; split <;> rfl
 cases x.ev s with
 | none=>exact key _
 | some v =>
  cases v with
  | ptr a =>
   cases a with
   | none=>exact key _
   | some a=>rfl
  | _=>exact key _
end
def guardV (x:Option Slot) (want:Bool) [f:Ct Unit β] [g:Ct Unit β]:Option β:=match x with
 | some (.val (.bool b))=>if b=want then f.default () else g.default ()
 | some .undef=>g.default ()
 | _=>none
@[simp] theorem guardV_tt (f g:Unit→Option β):guardV (some (.val (.bool true))) true (f:=⟨f⟩) (g:=⟨g⟩)=f ():=eq_of_heq HEq.rfl
@[simp] theorem guardV_tf (f g:Unit→Option β):guardV (some (.val (.bool true))) false (f:=⟨f⟩) (g:=⟨g⟩)=g ():=eq_of_heq HEq.rfl
@[simp] theorem guardV_ft (f g:Unit→Option β):guardV (some (.val (.bool false))) true (f:=⟨f⟩) (g:=⟨g⟩)=g ():=eq_of_heq HEq.rfl
@[simp] theorem guardV_ff (f g:Unit→Option β):guardV (some (.val (.bool false))) false (f:=⟨f⟩) (g:=⟨g⟩)=f ():=eq_of_heq HEq.rfl
@[simp] theorem guardV_u (w:Bool) (f g:Unit→Option β):guardV (some .undef) w (f:=⟨f⟩) (g:=⟨g⟩)=g ():=eq_of_heq HEq.rfl
def opsK (call:CallSem) (l:List AOper) (s:Slots) (h:Heap) [k:Ct2 Slots Heap β]:Option β:=andThen (evOps call l s h) (f:=⟨fun p=>k.default p.1 p.2⟩)
section
variable {call:CallSem} {s:Slots} {h:Heap} {k:Slots→Heap→Option β}
@[simp] theorem opsK_nil:opsK call [] s h (k:=⟨k⟩)=k s h:=eq_of_heq HEq.rfl
@[simp] theorem opsK_cons (d:Option Nat) (op:AOp) (r:List AOper):opsK call (⟨d,none,op⟩ :: r) s h (k:=⟨k⟩)=opK call d op s h (k:=⟨fun s h=>opsK call r s h (k:=⟨k⟩)⟩):=by
 simp only [opsK,opK,evOps,evOper,evRun]
 cases evOp call (d.getD 0) op s h <;> rfl
@[simp] theorem opsK_cons' (d:Option Nat) (t:Nat) (want:Bool) (op:AOp) (r:List AOper):opsK call (⟨d,some (t,want),op⟩ :: r) s h (k:=⟨k⟩) =
  guardV (sget s t) want (f:=⟨fun _=>opK call d op s h (k:=⟨fun s h=>opsK call r s h (k:=⟨k⟩)⟩)⟩) (g:=⟨fun _=>opsK call r (setSlot d .undef s) h (k:=⟨k⟩)⟩):=by
 simp only [opsK,opK,evOps,evOper,evRun,guardV]
 cases sget s t with
 | none=>rfl
 | some x =>
  cases x <;> try rfl
  rename_i v
  cases v <;> try rfl
  rename_i b
  by_cases e:b=want
  ·simp only [if_pos e]
   cases evOp call (d.getD 0) op s h <;> rfl
  ·simp only [if_neg e]
end
def quietK (call:CallSem) (l:List AOper) (s:Slots) (h:Heap) [k:Ct2 Slots Heap β]:Option β:=andThen (evQuiet call l s h) (f:=⟨fun p=>k.default p.1 p.2⟩)
section
variable {call:CallSem} {s:Slots} {h:Heap} {k:Slots→Heap→Option β}
@[simp] theorem quietK_nil:quietK call [] s h (k:=⟨k⟩)=k s h:=eq_of_heq HEq.rfl
@[simp] theorem quietK_cons (d:Option Nat) (g:Option (Nat × Bool)) (op:AOp) (r:List AOper):quietK call (⟨d,g,op⟩ :: r) s h (k:=⟨k⟩) =
  opsK call [⟨d,g,op⟩] s { h with wmin:=h.size } (k:=⟨fun s' h'=>mustK (h'.size=h.size∧h'.wmin=h.size∧noVar d s=true) (f:=⟨fun _=>quietK call r s' h (k:=⟨k⟩)⟩)⟩):=by
 simp only [quietK,opsK,evQuiet,evOps,noVar_eq]
 cases evOper call ⟨d,g,op⟩ s { h with wmin:=h.size } with
 | none=>rfl
 | some p =>
  simp only [bu,mustK]
  split <;> rfl
end
def newOp:AOp→Bool
 | .lalloc _=>true
 | _=>false
@[simp] theorem newOp_val (x:Opd):newOp (.val x)=false:=rfl
@[simp] theorem newOp_pick (c a b:Opd):newOp (.pick c a b)=false:=rfl
@[simp] theorem newOp_alloc (esz:Nat) (zero:List AVal):newOp (.alloc esz zero)=false:=rfl
@[simp] theorem newOp_lalloc (zero:List AVal):newOp (.lalloc zero)=true:=rfl
@[simp] theorem newOp_box (x:Opd):newOp (.box x)=false:=rfl
@[simp] theorem newOp_lbox (x:Opd):newOp (.lbox x)=false:=rfl
@[simp] theorem newOp_build (zero:List AVal) (parts:List (Nat × Nat × Opd)):newOp (.build zero parts)=false:=rfl
@[simp] theorem newOp_mkslice (esz len:Nat) (zero:List AVal) (parts:List (Nat × Nat × Opd)):newOp (.mkslice esz len zero parts)=false:=rfl
@[simp] theorem newOp_load (n:Option Nat) (a:Opd):newOp (.load n a)=false:=rfl
@[simp] theorem newOp_store (n:Nat) (a x:Opd):newOp (.store n a x)=false:=rfl
@[simp] theorem newOp_bin (op:BinOp) (x y:Opd):newOp (.bin op x y)=false:=rfl
@[simp] theorem newOp_un (op:UnOp) (x:Opd):newOp (.un op x)=false:=rfl
@[simp] theorem newOp_conv (k:ConvKind) (x:Opd):newOp (.conv k x)=false:=rfl
@[simp] theorem newOp_mkfunc (g:Nat) (first caps:List Opd):newOp (.mkfunc g first caps)=false:=rfl
@[simp] theorem newOp_make (esz bytes:Nat) (zero:List AVal) (len cap:Opd):newOp (.make esz bytes zero len cap)=false:=rfl
@[simp] theorem newOp_slice (k:SliceKind) (x:Opd) (lo hi mx:Option Opd):newOp (.slice k x lo hi mx)=false:=rfl
@[simp] theorem newOp_faddr (x:Opd) (off:Nat):newOp (.faddr x off)=false:=rfl
@[simp] theorem newOp_field (x:Opd) (off:Nat) (n:Option Nat):newOp (.field x off n)=false:=rfl
@[simp] theorem newOp_iaddr (esz:Nat) (x i:Opd):newOp (.iaddr esz x i)=false:=rfl
@[simp] theorem newOp_aaddr (len esz:Nat) (x i:Opd):newOp (.aaddr len esz x i)=false:=rfl
@[simp] theorem newOp_index (x i:Opd):newOp (.index x i)=false:=rfl
@[simp] theorem newOp_aindex (len esz:Nat) (n:Option Nat) (x i:Opd):newOp (.aindex len esz n x i)=false:=rfl
@[simp] theorem newOp_extract (x:Opd) (i:Nat):newOp (.extract x i)=false:=rfl
@[simp] theorem newOp_call (f:Opd) (args:List Opd):newOp (.call f args)=false:=rfl
@[simp] theorem newOp_callg (g:Nat) (args:List Opd):newOp (.callg g args)=false:=rfl
@[simp] theorem newOp_len (k:LenKind) (x:Opd):newOp (.len k x)=false:=rfl
@[simp] theorem newOp_append (esz bytes:Nat) (x y:Opd):newOp (.append esz bytes x y)=false:=rfl
@[simp] theorem newOp_copy (esz:Nat) (d s:Opd):newOp (.copy esz d s)=false:=rfl
@[simp] theorem newOp_minmax (isMax:Bool) (xs:List Opd):newOp (.minmax isMax xs)=false:=rfl
@[simp] theorem newOp_nilcheck (x:Opd):newOp (.nilcheck x)=false:=rfl
@[simp] theorem newOp_eqnil (k:NilKind) (neg:Bool) (x y:Opd):newOp (.eqnil k neg x y)=false:=rfl
@[simp] theorem newOp_beq (neg:Bool) (x y:Opd):newOp (.beq neg x y)=false:=rfl
@[simp] theorem newOp_ext (k:ExtOp) (xs:List Opd):newOp (.ext k xs)=false:=rfl
@[simp] theorem newOp_nextStr (x:Opd):newOp (.nextStr x)=false:=rfl
def hasNew:List AOper→Bool
 | []=>false
 | o :: r=>(newOp o.op && o.dst.isSome) || hasNew r
@[simp] theorem hasNew_nil:hasNew []=false:=rfl
@[simp] theorem hasNew_cons (d:Option Nat) (g:Option (Nat × Bool)) (op:AOp) (r:List AOper):hasNew (⟨d,g,op⟩ :: r)=((newOp op && d.isSome) || hasNew r):=rfl
theorem hasNew_eq:∀ l:List AOper,(newVars l=[]) ↔ hasNew l=false
 | []=>by simp [newVars]
 | ⟨d,g,op⟩ :: r=>by
  have ih:=hasNew_eq r
  unfold newVars at ih ⊢
  rw [hasNew_cons,List.filterMap_cons]
  cases op with
  | lalloc z =>
   cases d with
   | none=>simpa [AOper.news] using ih
   | some d=>simp [AOper.news]
  | _=>simpa [AOper.news] using ih
@[simp] theorem newVars_nil:newVars []=[]:=rfl
@[simp] theorem newVars_n (g:Option (Nat × Bool)) (op:AOp) (r:List AOper):newVars (⟨none,g,op⟩ :: r)=newVars r:=by
 unfold newVars
 rw [List.filterMap_cons]
 cases op <;> rfl
@[simp] theorem newVars_s (d:Nat) (g:Option (Nat × Bool)) (op:AOp) (r:List AOper):newVars (⟨some d,g,op⟩ :: r)=if newOp op=true then d :: newVars r else newVars r:=by
 unfold newVars
 rw [List.filterMap_cons]
 cases op <;> rfl
def looksK (V:List Nat):Option Slot→Nat→Bool
 | some (.loc u _),t=>V.contains t || V.contains u
 | _,t=>V.contains t
@[simp] theorem looksK_v (V:List Nat) (v:AVal) (t:Nat):looksK V (some (.val v)) t=V.contains t:=rfl
@[simp] theorem looksK_x (V:List Nat) (v:List AVal) (t:Nat):looksK V (some (.var v)) t=V.contains t:=rfl
@[simp] theorem looksK_u (V:List Nat) (t:Nat):looksK V (some .undef) t=V.contains t:=rfl
@[simp] theorem looksK_l (V:List Nat) (a b t:Nat):looksK V (some (.loc a b)) t=(V.contains t || V.contains a):=rfl
def allLooks (V:List Nat) (s:Slots):List Nat→Bool
 | []=>true
 | t :: r=>!looksK V (sget s t) t && allLooks V s r
@[simp] theorem allLooks_nil (V:List Nat) (s:Slots):allLooks V s []=true:=rfl
@[simp] theorem allLooks_cons (V:List Nat) (s:Slots) (t:Nat) (r:List Nat):allLooks V s (t :: r)=(!looksK V (sget s t) t && allLooks V s r):=rfl
def okK (V:List Nat) (d:Option Nat) (g:Option (Nat × Bool)) (op:AOp) (s:Slots):Bool:=quietOk V ⟨d,g,op⟩ s
attribute [simp] noLocs
def quietVK (call:CallSem) (V:List Nat) (l:List AOper) (s:Slots) (h:Heap) [k:Ct2 Slots Heap β]:Option β:=andThen (evQuietV call V l s h) (f:=⟨fun p=>k.default p.1 p.2⟩)
section
variable {call:CallSem} {s:Slots} {h:Heap} {V:List Nat} {k:Slots→Heap→Option β}
@[simp] theorem quietVK_nil:quietVK call V [] s h (k:=⟨k⟩)=k s h:=eq_of_heq HEq.rfl
@[simp] theorem quietVK_cons (d:Option Nat) (g:Option (Nat × Bool)) (op:AOp) (r:List AOper):quietVK call V (⟨d,g,op⟩ :: r) s h (k:=⟨k⟩) =
  opsK call [⟨d,g,op⟩] s { h with wmin:=h.size } (k:=⟨fun s' h'=>mustK (h'.size=h.size∧h'.wmin=h.size∧okK V d g op s=true) (f:=⟨fun _=>quietVK call V r s' h (k:=⟨k⟩)⟩)⟩):=by
 simp only [quietVK,opsK,evQuietV,evOps]
 cases evOper call ⟨d,g,op⟩ s { h with wmin:=h.size } with
 | none=>rfl
 | some p =>
  simp only [bu]
  unfold mustK okK
  by_cases e:p.2.size=h.size∧p.2.wmin=h.size∧quietOk V ⟨d,g,op⟩ s=true
  ·rw [if_pos e,if_pos e]; rfl
  ·rw [if_neg e,if_neg e]; rfl
end
def segsK (call:CallSem) (l:List Seg) (s:Slots) (h:Heap) [k:Ct2 Slots Heap β]:Option β:=andThen (evSegs call l s h) (f:=⟨fun p=>k.default p.1 p.2⟩)
def openK (call:CallSem) (n0:Nat) (ms:List Nat) (l:List AOper) (ds:List Did) (s:Slots) (h:Heap) [k:Ct2 Slots Heap β]:Option β:=andThen (openAll call n0 ms l ds s h) (f:=⟨fun p=>k.default p.1 p.2⟩)
section
variable {call:CallSem} {s:Slots} {h:Heap} {k:Slots→Heap→Option β}
@[simp] theorem segsK_nil:segsK call [] s h (k:=⟨k⟩)=k s h:=eq_of_heq HEq.rfl
@[simp] theorem segsK_f (m:List Nat) (l:List AOper) (r:List Seg):segsK call (⟨false,m,l⟩ :: r) s h (k:=⟨k⟩)=opsK call l s h (k:=⟨fun s h=>segsK call r s h (k:=⟨k⟩)⟩):=by
 simp only [segsK,opsK,evSegs,bw,if_false]
 cases evOps call l s h <;> rfl
theorem segsK_t (l:List AOper) (r:List Seg) (hn:hasNew l=false):segsK call (⟨true,[],l⟩ :: r) s h (k:=⟨k⟩)=quietK call l s h (k:=⟨fun s h=>segsK call r s h (k:=⟨k⟩)⟩):=by
 simp only [segsK,quietK,evSegs,if_true,evQ]
 rw [if_pos ((hasNew_eq l).2 hn)]
 cases evQuiet call l s h <;> rfl
theorem segsK_v (l:List AOper) (r:List Seg) (hn:hasNew l=true):segsK call (⟨true,[],l⟩ :: r) s h (k:=⟨k⟩)=mustK (noLocs (newVars l) s=true) (f:=⟨fun _=>quietVK call (newVars l) l s h (k:=⟨fun s h=>segsK call r s h (k:=⟨k⟩)⟩)⟩):=by
 simp only [segsK,quietVK,evSegs,if_true,evQ]
 rw [if_neg (fun e=>by rw [(hasNew_eq l).1 e] at hn; cases hn)]
 unfold mustK
 split
 ·rename_i he
  split at he
  ·rename_i hl
   rw [if_pos hl,he]; rfl
  ·cases he
 ·rename_i he
  split at he
  ·rename_i hl
   rw [if_pos hl,he]; rfl
  ·rename_i hl; rw [if_neg hl]; rfl
theorem segsK_o (m:Nat) (ms:List Nat) (l:List AOper) (r:List Seg):segsK call (⟨true,m :: ms,l⟩ :: r) s h (k:=⟨k⟩)=openK call h.size (m :: ms) l [] s h (k:=⟨fun s h=>segsK call r s h (k:=⟨k⟩)⟩):=by
 simp only [segsK,openK,evSegs,evOpen,if_true,reduceCtorEq,if_false]
 cases openAll call h.size (m :: ms) l [] s h <;> rfl
@[simp] theorem openK_nil (n0:Nat) (ms:List Nat) (ds:List Did):openK call n0 ms [] ds s h (k:=⟨k⟩)=k s h:=by
 simp [openK,openAll]
end
def iteK (p:Prop) [Decidable p] [f:Ct Unit β] [g:Ct Unit β]:Option β:=if p then f.default () else g.default ()
@[simp] theorem iteK_t [i:Decidable True] (f g:Unit→Option β):iteK True (f:=⟨f⟩) (g:=⟨g⟩)=f ():=by simp [iteK]
@[simp] theorem iteK_f [i:Decidable False] (f g:Unit→Option β):iteK False (f:=⟨f⟩) (g:=⟨g⟩)=g ():=by simp [iteK]
@[simp] theorem segsK_q (call:CallSem) (l:List AOper) (r:List Seg) (s:Slots) (h:Heap) (k:Slots→Heap→Option β):segsK call (⟨true,[],l⟩ :: r) s h (k:=⟨k⟩)=iteK (hasNew l=true)
  (f:=⟨fun _=>mustK (noLocs (newVars l) s=true) (f:=⟨fun _=>quietVK call (newVars l) l s h (k:=⟨fun s h=>segsK call r s h (k:=⟨k⟩)⟩)⟩)⟩)
  (g:=⟨fun _=>quietK call l s h (k:=⟨fun s h=>segsK call r s h (k:=⟨k⟩)⟩)⟩):=by
 unfold iteK
 split
 ·rename_i hn; exact segsK_v l r hn
 ·rename_i hn; exact segsK_t l r (by simpa using hn)
abbrev Ct3 (β:Type):=Inhabited (Slot→Heap→Did→Option β)
def endK (n0 m:Nat) (ds:List Did) (rd:List Nat) (ld:Option (Nat × Nat × Option Nat × AVal)) (y:Slot) (h h':Heap) [k:Ct3 β]:Option β :=
 if h'.size=h.size then
  if h'.wmin < h.size then
   match h'.objs[h'.wmin]? with
   | some ob=>if (y.ids++ob.ids).all (okId n0 m ds)=true then k.default y ⟨h'.objs,h.base,min h.wmin h'.wmin⟩ ⟨false,rd,some h'.wmin,none,h.size,h.size,ld⟩ else none
   | none=>none
  else if h'.wmin=h.size∧y.ids.all (okId n0 m ds)=true then k.default y h ⟨false,rd,none,none,h.size,h.size,ld⟩ else none
 else if h'.size=h.size+1 then
  match h'.objs[h.size]? with
  | some ob =>
   if ob.ids.all (okId n0 m ds) then
    if h'.wmin=h.size then k.default y ⟨h'.objs,h.base,h.wmin⟩ ⟨false,rd,none,none,h.size,h.size+1,ld⟩
    else k.default y ⟨h'.objs,h.base,min h.wmin h'.wmin⟩ ⟨false,rd,some h'.wmin,none,h.size,h.size+1,ld⟩
   else none
  | none=>none
 else none
def endC (n0 m:Nat) (ds:List Did) (y:Slot) (h h':Heap) [k:Ct3 β]:Option β :=
 if h'.wmin < h.size then
  if allSeen m 0 ds then k.default y ⟨h'.objs,h.base,min h.wmin h'.wmin⟩ ⟨true,[],none,some (h'.wmin,h.objs,h'.objs),h.size,h'.size,none⟩ else none
 else if allSeen m 0 ds then k.default y ⟨h'.objs,h.base,h.wmin⟩ ⟨true,[],none,none,h.size,h'.size,none⟩
 else if (y.ids++(h'.objs.drop h.size).flatMap AObj.ids).all (fun i=>okId n0 m ds i || decide (h.size≤i)) then
  k.default y ⟨h.objs++h'.objs.drop h.size,h.base,h.wmin⟩ ⟨true,[],none,none,h.size,h'.size,none⟩
 else none
section
variable {n0 m:Nat} {ds:List Did} {rd:List Nat} {ld:Option (Nat × Nat × Option Nat × AVal)} {y:Slot} {h h':Heap} {k:Slot→Heap→Did→Option β}
@[simp] theorem endK_eq:endK n0 m ds rd ld y h h' (k:=⟨k⟩)=iteK (h'.size=h.size)
  (f:=⟨fun _=>iteK (h'.wmin < h.size)
   (f:=⟨fun _=>andThen (h'.objs[h'.wmin]?) (f:=⟨fun ob=>mustK ((y.ids++ob.ids).all (okId n0 m ds)=true) (f:=⟨fun _=>k y ⟨h'.objs,h.base,min h.wmin h'.wmin⟩ ⟨false,rd,some h'.wmin,none,h.size,h.size,ld⟩⟩)⟩)⟩)
   (g:=⟨fun _=>mustK (h'.wmin=h.size∧y.ids.all (okId n0 m ds)=true) (f:=⟨fun _=>k y h ⟨false,rd,none,none,h.size,h.size,ld⟩⟩)⟩)⟩)
  (g:=⟨fun _=>mustK (h'.size=h.size+1) (f:=⟨fun _=>andThen (h'.objs[h.size]?) (f:=⟨fun ob=>mustK (ob.ids.all (okId n0 m ds)=true) (f:=⟨fun _=>iteK (h'.wmin=h.size)
   (f:=⟨fun _=>k y ⟨h'.objs,h.base,h.wmin⟩ ⟨false,rd,none,none,h.size,h.size+1,ld⟩⟩)
   (g:=⟨fun _=>k y ⟨h'.objs,h.base,min h.wmin h'.wmin⟩ ⟨false,rd,some h'.wmin,none,h.size,h.size+1,ld⟩⟩)⟩)⟩)⟩)⟩):=by
 unfold endK iteK mustK
 split
 ·show _=if _ then _ else _
  split
  ·cases h'.objs[h'.wmin]? with
   | none=>rfl
   | some ob=>rfl
  ·rfl
 ·show _=if _ then _ else _
  split
  ·cases h'.objs[h.size]? with
   | none=>rfl
   | some ob =>
    show (if ob.ids.all (okId n0 m ds)=true then _ else none)=if ob.ids.all (okId n0 m ds)=true then _ else none
    split <;> rfl
  ·rfl
@[simp] theorem endC_eq:endC n0 m ds y h h' (k:=⟨k⟩)=iteK (h'.wmin < h.size)
  (f:=⟨fun _=>mustK (allSeen m 0 ds=true) (f:=⟨fun _=>k y ⟨h'.objs,h.base,min h.wmin h'.wmin⟩ ⟨true,[],none,some (h'.wmin,h.objs,h'.objs),h.size,h'.size,none⟩⟩)⟩)
  (g:=⟨fun _=>iteK (allSeen m 0 ds=true) (f:=⟨fun _=>k y ⟨h'.objs,h.base,h.wmin⟩ ⟨true,[],none,none,h.size,h'.size,none⟩⟩)
   (g:=⟨fun _=>mustK ((y.ids++(h'.objs.drop h.size).flatMap AObj.ids).all (fun i=>okId n0 m ds i || decide (h.size≤i))=true) (f:=⟨fun _ =>
    k y ⟨h.objs++h'.objs.drop h.size,h.base,h.wmin⟩ ⟨true,[],none,none,h.size,h'.size,none⟩⟩)⟩)⟩):=by
 unfold endC iteK mustK
 split <;> rfl
end
section
variable {call:CallSem} {s:Slots} {h:Heap} {k:Slots→Heap→Option β}
@[simp] theorem openK_cons (n0:Nat) (ms:List Nat) (o:AOper) (r:List AOper) (ds:List Did):openK call n0 ms (o :: r) ds s h (k:=⟨k⟩) =
  mustK ((o.reads.flatMap (slotIds s)++rdIds o.op s).all (okId n0 (ms.headD 0) ds)=true) (f:=⟨fun _=>iteK (o.op.isCall=true)
   (f:=⟨fun _=>opsK call [o] s ⟨hide (ms.headD 0) 0 ds h.objs,h.base,h.size⟩ (k:=⟨fun s' h'=>endC n0 (ms.headD 0) ds (dstSlot o.dst s') h h' (k:=⟨fun y h2 d =>
    mustK (noVar o.dst s=true∧noClash h2 (ms.headD 0) d 0 ds=true) (f:=⟨fun _=>openK call n0 ms.tail r (ds++[d]) (setSlot o.dst y s) h2 (k:=⟨k⟩)⟩)⟩)⟩)⟩)
   (g:=⟨fun _=>opsK noCall [o] s ⟨h.objs,h.base,h.size⟩ (k:=⟨fun s' h'=>endK n0 (ms.headD 0) ds (rdIds o.op s) (ldOf o s (dstSlot o.dst s')) (dstSlot o.dst s') h h' (k:=⟨fun y h2 d =>
    mustK (noVar o.dst s=true∧noClash h2 (ms.headD 0) d 0 ds=true) (f:=⟨fun _=>openK call n0 ms.tail r (ds++[d]) (setSlot o.dst y s) h2 (k:=⟨k⟩)⟩)⟩)⟩)⟩)⟩):=by
 have key:∀ (x:Option (Slot × Heap × Did)),andThen (match x with
   | some (y,h',d)=>if (o.dst.all fun d=>!isVar s d)=true∧noClash h' (ms.headD 0) d 0 ds=true then openAll call n0 ms.tail r (ds++[d]) (setSlot o.dst y s) h' else none
   | none=>none) (f:=⟨fun p=>k p.1 p.2⟩)=andThen x (f:=⟨fun p=>if noVar o.dst s=true∧noClash p.2.1 (ms.headD 0) p.2.2 0 ds=true then andThen (openAll call n0 ms.tail r (ds++[p.2.2]) (setSlot o.dst p.1 s) p.2.1) (f:=⟨fun p=>k p.1 p.2⟩) else none⟩):=by
  intro x
  cases x with
  | none=>rfl
  | some x =>
   obtain ⟨y,h',d⟩:=x
   simp only [bu,noVar_eq]
   split <;> rfl
 unfold openK openAll
 refine (key _).trans ?_
 generalize hF:(fun p:Slot × Heap × Did=>if noVar o.dst s=true∧noClash p.2.1 (ms.headD 0) p.2.2 0 ds=true then andThen (openAll call n0 ms.tail r (ds++[p.2.2]) (setSlot o.dst p.1 s) p.2.1) (f:=⟨fun p=>k p.1 p.2⟩) else none)=F
 have hF':∀ y h d,F (y,h,d)=if noVar o.dst s=true∧noClash h (ms.headD 0) d 0 ds=true then andThen (openAll call n0 ms.tail r (ds++[d]) (setSlot o.dst y s) h) (f:=⟨fun p=>k p.1 p.2⟩) else none:=fun y h d=>by rw [← hF]
 unfold openOne mustK iteK opsK
 simp only [evOps]
 cases h1:(o.reads.flatMap (slotIds s)++rdIds o.op s).all (okId n0 (ms.headD 0) ds) with
 | false=>simp
 | true =>
  simp only [Bool.true_eq_false,if_false,if_true]
  split
  ·cases evOper call o s ⟨hide (ms.headD 0) 0 ds h.objs,h.base,h.size⟩ with
   | none=>rfl
   | some p =>
    obtain ⟨s',h'⟩:=p
    simp only [bu]
    unfold endC
    simp only [← hF']
    split
    ·split <;> rfl
    ·split
     ·rfl
     ·split <;> rfl
  ·cases evOper noCall o s ⟨h.objs,h.base,h.size⟩ with
   | none=>rfl
   | some p =>
    obtain ⟨s',h'⟩:=p
    simp only [bu]
    unfold endK
    simp only [← hF']
    split
    ·split
     ·cases h'.objs[h'.wmin]? with
      | none=>rfl
      | some ob =>
       simp only
       split <;> rfl
     ·split <;> rfl
    ·split
     ·cases h'.objs[h.size]? with
      | none=>rfl
      | some ob =>
       simp only
       split
       ·split <;> rfl
       ·rfl
     ·rfl
end
def openPK (call:CallSem) (n0:Nat) [k:Ct2 Slots Heap β] [f:Ct Unit β]:Bool→List AOper→Slots→Heap→Option β
 | _,[],s,h=>k.default s h
 | c,o :: r,s,h=>iteK ((o.reads.flatMap (slotIds s)++rdIds o.op s).all (fun i=>decide (i < n0))=true)
  (f:=⟨fun _=>iteK (o.op.isCall=true)
   (f:=⟨fun _=>iteK (c=true) (f:=f) (g:=⟨fun _=>opsK call [o] s ⟨h.objs,h.base,h.size⟩ (k:=⟨fun s' h' =>
    iteK (h'.size=h.size∧((dstSlot o.dst s').ids.all fun i=>decide (i < n0))=true∧noVar o.dst s=true)
     (f:=⟨fun _=>openPK call n0 (k:=k) (f:=f) true r (setSlot o.dst (dstSlot o.dst s') s) ⟨h'.objs,h.base,if h'.wmin < h.size then min h.wmin h'.wmin else h.wmin⟩⟩) (g:=f)⟩)⟩)⟩)
   (g:=⟨fun _=>iteK (rdIds o.op s=[])
    (f:=⟨fun _=>opsK noCall [o] s ⟨h.objs,h.base,h.size⟩ (k:=⟨fun s' h' =>
     iteK (h'.size=h.size∧h'.wmin=h.size∧((dstSlot o.dst s').ids.all fun i=>decide (i < n0))=true∧noVar o.dst s=true)
      (f:=⟨fun _=>openPK call n0 (k:=k) (f:=f) c r (setSlot o.dst (dstSlot o.dst s') s) h⟩) (g:=f)⟩)⟩) (g:=f)⟩)⟩) (g:=f)
def PlainD (c:Bool) (ds:List Did):Prop:=∀ d ∈ ds,d.rd=[]∧d.ch=none∧d.hi≤d.lo∧(c=false→d.isCall=false∧d.wr=none)
theorem plain_hide {c:Bool} {m:Nat} {os:List AObj}:∀ {ds:List Did} {y:Nat},PlainD c ds→hide m y ds os=os
 | [],_,_=>rfl
 | d :: ds,y,h=>by
  simp only [hide]
  rw [if_pos (by simp [(h d (a7 ..)).2.2.1])]
  exact plain_hide fun x hx=>h x (bd _ hx)
theorem plain_seen {c:Bool} {m:Nat}:∀ {ds:List Did} {y:Nat},PlainD c ds→allSeen m y ds=true
 | [],_,_=>rfl
 | d :: ds,y,h=>by
  simp only [allSeen]
  rw [plain_seen fun x hx=>h x (bd _ hx)]
  simp [(h d (a7 ..)).2.2.1]
theorem plain_noClash {hh:Heap} {c:Bool} {m:Nat} {x:Did} (hx:x.rd=[]∧x.ch=none∧(c=true→x.isCall=false)):∀ {ds:List Did} {y:Nat},PlainD c ds→noClash hh m x y ds=true
 | [],_,_=>rfl
 | d :: ds,y,h=>by
  simp only [noClash]
  rw [plain_noClash hx fun x hx=>h x (bd _ hx)]
  obtain ⟨h1,h2,_,h4⟩:=h d (a7 ..)
  obtain ⟨k1,k2,k3⟩:=hx
  have hcc:(x.isCall && d.isCall)=false:=by
   cases c with
   | true=>rw [k3 rfl]; rfl
   | false=>rw [(h4 rfl).1]; simp
  simp [clash,h1,h2,k1,k2,hcc]
theorem openPK_eq {call:CallSem} {n0:Nat} {k:Slots→Heap→Option β} {F:Option β}:∀ (ops:List AOper) (c:Bool) (ms:List Nat) (ds:List Did) (s:Slots) (h:Heap),PlainD c ds→openK call n0 ms ops ds s h (k:=⟨k⟩)=F→openPK call n0 c ops s h (k:=⟨k⟩) (f:=⟨fun _=>F⟩)=F
 | [],c,ms,ds,s,h,hd,hF=>by
  simp only [openPK]
  rw [← hF]
  simp
 | o :: r,c,ms,ds,s,h,hd,hF=>by
  have hok:(o.reads.flatMap (slotIds s)++rdIds o.op s).all (fun i=>decide (i < n0))=true→(o.reads.flatMap (slotIds s)++rdIds o.op s).all (okId n0 (ms.headD 0) ds)=true:=fun hh=>by
   rw [al] at hh ⊢
   intro x hx
   have:=hh x hx
   simp only [okId,cd]
   exact .inl this
  have hok2:∀ l:List Nat,(l.all fun i=>decide (i < n0))=true→l.all (okId n0 (ms.headD 0) ds)=true:=fun l hh=>by
   rw [al] at hh ⊢
   intro x hx
   have:=hh x hx
   simp only [okId,cd]
   exact .inl this
  rw [openK_cons] at hF
  simp only [openPK]
  unfold iteK
  split
  case isFalse=>rfl
  rename_i h1
  rw [show mustK _ (f:=_)=_ from if_pos (hok h1)] at hF
  simp only at hF ⊢
  split
  ·rename_i hc
   rw [show iteK _ (f:=_) (g:=_)=_ from if_pos hc] at hF
   split
   ·rfl
   ·rename_i hcf
    have hcf:c=false:=by simpa using hcf
    subst hcf
    rw [plain_hide hd] at hF
    unfold opsK at hF ⊢
    cases he:evOps call [o] s ⟨h.objs,h.base,h.size⟩ with
    | none=>rw [he] at hF; simpa using hF
    | some q =>
     obtain ⟨s',h'⟩:=q
     rw [he] at hF
     simp only [bu] at hF ⊢
     split
     case isFalse=>rfl
     rename_i hh
     obtain ⟨g1,g2,g3⟩:=hh
     have hseen:=plain_seen (m:=ms.headD 0) (y:=0) hd
     have hnc:∀ hh wr,noClash hh (ms.headD 0) ⟨true,[],none,wr,h.size,h'.size,none⟩ 0 ds=true:=fun hh wr=>plain_noClash (c:=false) ⟨rfl,rfl,fun h=>by cases h⟩ hd
     have hd2:∀ wr,PlainD true (ds++[⟨true,[],none,wr,h.size,h'.size,none⟩]):=fun wr x hx=>by
      rcases br.1 hx with hx | hx
      ·obtain ⟨a1,a2,a3,_⟩:=hd x hx
       exact ⟨a1,a2,a3,fun h=>by cases h⟩
      ·simp only [bi] at hx
       subst hx
       exact ⟨rfl,rfl,Nat.le_of_eq g1,fun h=>by cases h⟩
     by_cases hw:h'.wmin < h.size
     ·rw [if_pos hw]
      refine openPK_eq r true ms.tail _ _ _ (hd2 (some (h'.wmin,h.objs,h'.objs))) ?_
      rw [← hF]
      unfold endC
      rw [if_pos hw,if_pos hseen]
      exact (if_pos (c:=noVar o.dst s=true∧noClash _ (ms.headD 0) ⟨true,[],none,some (h'.wmin,h.objs,h'.objs),h.size,h'.size,none⟩ 0 ds=true) ⟨g3,hnc _ _⟩).symm
     ·rw [if_neg hw]
      refine openPK_eq r true ms.tail _ _ _ (hd2 none) ?_
      rw [← hF]
      unfold endC
      rw [if_neg hw,if_pos hseen]
      exact (if_pos (c:=noVar o.dst s=true∧noClash _ (ms.headD 0) ⟨true,[],none,none,h.size,h'.size,none⟩ 0 ds=true) ⟨g3,hnc _ _⟩).symm
  ·rename_i hc
   rw [show iteK _ (f:=_) (g:=_)=_ from if_neg hc] at hF
   split
   case isFalse=>rfl
   rename_i hr
   unfold opsK at hF ⊢
   cases he:evOps noCall [o] s ⟨h.objs,h.base,h.size⟩ with
   | none=>rw [he] at hF; simpa using hF
   | some q =>
    obtain ⟨s',h'⟩:=q
    rw [he] at hF
    simp only [bu] at hF ⊢
    split
    case isFalse=>rfl
    rename_i hh
    obtain ⟨g1,g2,g3,g4⟩:=hh
    have hnc:∀ hh ld,noClash hh (ms.headD 0) ⟨false,[],none,none,h.size,h.size,ld⟩ 0 ds=true:=fun hh ld=>plain_noClash (c:=c) ⟨rfl,rfl,fun _=>rfl⟩ hd
    refine openPK_eq r c ms.tail (ds++[⟨false,[],none,none,h.size,h.size,ldOf o s (dstSlot o.dst s')⟩]) _ _ (fun x hx=>?_) ?_
    ·rcases br.1 hx with hx | hx
     ·exact hd x hx
     ·simp only [bi] at hx
      subst hx
      exact ⟨rfl,rfl,ai _,fun _=>⟨rfl,rfl⟩⟩
    ·rw [← hF]
     unfold endK
     rw [if_pos g1,if_neg (by omega),if_pos ⟨g2,hok2 _ g3⟩,hr]
     exact (if_pos (c:=noVar o.dst s=true∧noClash _ (ms.headD 0) ⟨false,[],none,none,h.size,h.size,_⟩ 0 ds=true) ⟨g4,hnc _ _⟩).symm
section
variable {call:CallSem} {n0:Nat} {c:Bool} {s:Slots} {h:Heap} {k:Slots→Heap→Option β} {f:Unit→Option β}
@[simp] theorem openPK_nil:openPK call n0 (k:=⟨k⟩) (f:=⟨f⟩) c [] s h=k s h:=eq_of_heq HEq.rfl
@[simp] theorem openPK_cons (o:AOper) (r:List AOper):openPK call n0 (k:=⟨k⟩) (f:=⟨f⟩) c (o :: r) s h=iteK ((o.reads.flatMap (slotIds s)++rdIds o.op s).all (fun i=>decide (i < n0))=true)
  (f:=⟨fun _=>iteK (o.op.isCall=true)
   (f:=⟨fun _=>iteK (c=true) (f:=⟨f⟩) (g:=⟨fun _=>opsK call [o] s ⟨h.objs,h.base,h.size⟩ (k:=⟨fun s' h' =>
    iteK (h'.size=h.size∧((dstSlot o.dst s').ids.all fun i=>decide (i < n0))=true∧noVar o.dst s=true)
     (f:=⟨fun _=>openPK call n0 (k:=⟨k⟩) (f:=⟨f⟩) true r (setSlot o.dst (dstSlot o.dst s') s) ⟨h'.objs,h.base,if h'.wmin < h.size then min h.wmin h'.wmin else h.wmin⟩⟩) (g:=⟨f⟩)⟩)⟩)⟩)
   (g:=⟨fun _=>iteK (rdIds o.op s=[])
    (f:=⟨fun _=>opsK noCall [o] s ⟨h.objs,h.base,h.size⟩ (k:=⟨fun s' h' =>
     iteK (h'.size=h.size∧h'.wmin=h.size∧((dstSlot o.dst s').ids.all fun i=>decide (i < n0))=true∧noVar o.dst s=true)
      (f:=⟨fun _=>openPK call n0 (k:=⟨k⟩) (f:=⟨f⟩) c r (setSlot o.dst (dstSlot o.dst s') s) h⟩) (g:=⟨f⟩)⟩)⟩) (g:=⟨f⟩)⟩)⟩) (g:=⟨f⟩):=eq_of_heq HEq.rfl
end
@[simp] theorem segsK_p (call:CallSem) (m:Nat) (ms:List Nat) (l:List AOper) (r:List Seg) (s:Slots) (h:Heap) (k:Slots→Heap→Option β):segsK call (⟨true,m :: ms,l⟩ :: r) s h (k:=⟨k⟩) =
  openPK call h.size false l s h (k:=⟨fun s h=>segsK call r s h (k:=⟨k⟩)⟩) (f:=⟨fun _=>openK call h.size (m :: ms) l [] s h (k:=⟨fun s h=>segsK call r s h (k:=⟨k⟩)⟩)⟩):=by
 rw [segsK_o]
 exact (openPK_eq l false (m :: ms) [] s h (fun x hx=>by cases hx) rfl).symm
noncomputable def xK (T:Nat→Option AFunc) (c:ACode) (st:St) [k:Ct2 AExit St β]:Option β:=andThen (xCode T c st) (f:=⟨fun p=>k.default p.1 p.2⟩)
section
variable {T:Nat→Option AFunc} {st:St} {k:AExit→St→Option β}
@[simp] theorem xK_skip:xK T .skip st (k:=⟨k⟩)=k .normal st:=by simp [xK]
@[simp] theorem xK_exit (i:Nat):xK T (.exit i) st (k:=⟨k⟩)=k (.exit i) st:=by simp [xK]
@[simp] theorem xK_ret:xK T .ret st (k:=⟨k⟩)=k .ret st:=by simp [xK]
@[simp] theorem xK_region (gs:List Seg):xK T (.region gs) st (k:=⟨k⟩)=segsK (xCall T) gs st.s st.h (k:=⟨fun s h=>k .normal ⟨s,h⟩⟩):=by
 simp only [xK,segsK,xCode_region,gp]
@[simp] theorem xK_seq (a b:ACode):xK T (.seq a b) st (k:=⟨k⟩)=xK T a st (k:=⟨fun e st=>nxK e st (f:=⟨fun st=>xK T b st (k:=⟨k⟩)⟩) (k:=⟨k⟩)⟩):=by
 simp only [xK,xCode_seq]
 cases xCode T a st with
 | none=>rfl
 | some p =>
  obtain ⟨e,st'⟩:=p
  cases e <;> rfl
@[simp] theorem xK_cond (c:Opd) (a b:ACode):xK T (.cond c a b) st (k:=⟨k⟩)=condK (c.ev st.s) (f:=⟨fun _=>xK T a st (k:=⟨k⟩)⟩) (g:=⟨fun _=>xK T b st (k:=⟨k⟩)⟩):=by
 simp only [xK,xCode_cond,condK]
 cases c.ev st.s with
 | none=>rfl
 | some v =>
  cases v <;> try rfl
  rename_i x; cases x <;> rfl
@[simp] theorem xK_block (i:Nat) (c:ACode):xK T (.block i c) st (k:=⟨k⟩)=xK T c st (k:=⟨fun e st=>k (blkE i e) st⟩):=by
 simp only [xK,xCode_block]
 cases xCode T c st with
 | none=>rfl
 | some p =>
  obtain ⟨e,st'⟩:=p
  cases e <;> simp only [bu,blkE]
  split <;> rfl
@[simp] theorem xK_live (l:List Nat) (c:ACode):xK T (.live l c) st (k:=⟨k⟩)=xK T c ⟨keepK l st.s,st.h⟩ (k:=⟨k⟩):=by
 simp only [xK,xCode_live,keepK_eq]
@[simp] theorem xK_after (c:ACode) (l:List Nat):xK T (.after c l) st (k:=⟨k⟩)=xK T c st (k:=⟨fun e st=>nxK e st (f:=⟨fun st=>k .normal ⟨keepK l st.s,st.h⟩⟩) (k:=⟨k⟩)⟩):=by
 simp only [xK,xCode_after]
 cases xCode T c st with
 | none=>rfl
 | some p =>
  obtain ⟨e,st'⟩:=p
  cases e <;> first | rfl | (simp only [bu,nxK,keepK_eq])
theorem b9 (c:ACode):xK T (.loop c) st (k:=⟨k⟩)=xK T c st (k:=⟨fun e st=>nxK e st (f:=⟨fun st=>xK T (.loop c) st (k:=⟨k⟩)⟩) (k:=⟨k⟩)⟩):=by
 simp only [xK]
 rw [xCode_loop]
 cases xCode T c st with
 | none=>rfl
 | some p =>
  obtain ⟨e,st'⟩:=p
  cases e <;> rfl
@[simp] theorem xK_rangeFunc (f:Opd) (g:Nat) (caps ps:List Nat) (a b:ACode):xK T (.rangeFunc f g caps ps a b) st (k:=⟨k⟩)=andThen (f.ev st.s) (f:=⟨fun fv=>andThen (capsOf st.s caps) (f:=⟨fun sl =>
  andThen (callVal (xCall T) fv [.yield st.h.size] (st.h.push (.loop g .ready none sl))) (f:=⟨fun p=>andThen (loopEnd st.s p.2 st.h.size) (f:=⟨fun q=>k q.1 q.2⟩)⟩)⟩)⟩):=by
 simp only [xK,xCode_rangeFunc]
 cases f.ev st.s <;> cases capsOf st.s caps <;> try rfl
 simp only [bu]
 cases callVal _ _ _ _ <;> rfl
end
def retK (f:AFunc) (h:Heap) (e:AExit) (st:St):Option (AVal × Heap):=match e with
 | .exit _=>none
 | _=>andThen (resultsL st.s st.h f.results) (f:=⟨fun vs=>some (finish h (tupled vs) st.h)⟩)
@[simp] theorem retK_r (f:AFunc) (h:Heap) (st:St):retK f h .ret st=andThen (resultsL st.s st.h f.results) (f:=⟨fun vs=>some (finish h (tupled vs) st.h)⟩):=eq_of_heq HEq.rfl
@[simp] theorem retK_n (f:AFunc) (h:Heap) (st:St):retK f h .normal st=andThen (resultsL st.s st.h f.results) (f:=⟨fun vs=>some (finish h (tupled vs) st.h)⟩):=eq_of_heq HEq.rfl
theorem ba {T:Nat→Option AFunc} {g:Nat} {f:AFunc} (hT:T g=some f) (args:List AVal) (h:Heap) (hr:f.round=none:=by rfl) (hc:f.closed=false:=by rfl) (hw:f.wild=false:=by rfl) :
  xCall T g args h=mustK (args.length=f.nargs) (f:=⟨fun _=>xK T f.body ⟨enter 0 args,{ h with wmin:=h.size }⟩ (k:=⟨retK f h⟩)⟩):=by
 rw [xCall_eq T hT (hr:=hr) (hw:=hw),hc,wrapC_false]
 unfold xFunc mustK
 by_cases hn:args.length=f.nargs
 ·rw [if_pos hn,if_pos hn]
  unfold xK outcome
  cases xCode T f.body ⟨enter 0 args,{ h with wmin:=h.size }⟩ with
  | none=>rfl
  | some p =>
   obtain ⟨e,st⟩:=p
   cases e with
   | exit i=>rfl
   | normal=>simp only [bu,retK]; cases resultsL st.s st.h f.results <;> rfl
   | ret=>simp only [bu,retK]; cases resultsL st.s st.h f.results <;> rfl
 ·rw [if_neg hn,if_neg hn]
end Go.Abs
