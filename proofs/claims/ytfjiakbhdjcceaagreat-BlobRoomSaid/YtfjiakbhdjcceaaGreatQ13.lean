/-
  Texts joined.
-/
import Derived.Test.YtfjiakbhdjcceaaGreatQ0
import Derived.Test.YtfjiakbhdjcceaaGreatQ6
import Derived.ProofKit
import Derived.Test.YtfjiakbhdjcceaaGreatQ9
set_option linter.unusedVariables false
set_option linter.unusedSimpArgs false
set_option maxRecDepth 100000
namespace Go.Abs
open Go.RowKit Go.ChangeShapes
section
variable {H:Type} {enc:TypeId × Value→H} {P:Program}
theorem vl {W w:World} (laid:laidOutB P=true) (hb:Below W.heap.size W w) {sp:Nat→Bool}:∀ {ts:List TypeId} {vs:List Value} {ds:List (DataW H)} {ps:List MemPlace},
  (ts.all fun t=>P.readableRec t && decide (t < P.types.size))=true→DataW.TrodAll enc P W 0 (fun _=>true) true ts vs ds ps→(∀ x ∈ ps,x.block < W.heap.size)→(∀ p ∈ ps,sp p.block=true)→DataW.TrodAll enc P w 0 sp true ts vs ds ps
 | [],[],[],ps,_,h,_,_=>h
 | t :: ts,v :: vs,d :: ds,ps,hr,h,e,j=>by
  simp only [List.all_cons,bc,decide_eq_true_eq] at hr;obtain ⟨p,q,h1,h2,rfl⟩:=h
  exact ⟨p,q,WideElems.Trod_stays laid hr.1.1 hr.1.2 h1 (fun x hx=>hb.same (e x (dr _ hx))) (fun x hx=>j x (dr _ hx)),
   vl laid hb hr.2 h2 (fun x hx=>e x (gb _ hx)) (fun x hx=>j x (gb _ hx)),rfl⟩
 | [],_ :: _,_,_,_,h,_,_=>by simp [DataW.TrodAll] at h
 | [],[],_ :: _,_,_,h,_,_=>by simp [DataW.TrodAll] at h
 | _ :: _,[],_,_,_,h,_,_=>by simp [DataW.TrodAll] at h
 | _ :: _,_ :: _,[],_,_,h,_,_=>by simp [DataW.TrodAll] at h
theorem qe {W:World} {base:Nat} {sp:Nat→Bool} {hd:Bool}:∀ {ts:List TypeId} {vs:List Value} {ds:List (DataW H)} {ps:List MemPlace},DataW.TrodAll enc P W base sp hd ts vs ds ps→ds.length=ts.length
 | [],[],[],_,_=>rfl
 | _ :: _,_ :: _,_ :: _,_,h=>by obtain ⟨_,_,_,h2,_⟩:=h;simpa using qe h2
 | [],_ :: _,_,_,h=>by simp [DataW.TrodAll] at h
 | [],[],_ :: _,_,h=>by simp [DataW.TrodAll] at h
 | _ :: _,[],_,_,h=>by simp [DataW.TrodAll] at h
 | _ :: _,_ :: _,[],_,h=>by simp [DataW.TrodAll] at h
theorem post_true {f:Func} {s:ChangeSpec} {apart fresh d again:Bool} {W G:World} {args:Array Value} {ds X:List (DataW H)} {w:List MemPlace} (L:s.vars=[])
  (B:s.fn H ds = { results:=[.lit (.bool true)],args:=ds }) (laid:laidOutB P=true) (C:(f.params.toList.all fun t=>P.readableRec t && decide (t < P.types.size))=true)
  {tb:TypeId} (I:f.resultTypes = #[tb]) (J:P.underlying tb=some .bool) (N:DataW.Whole enc P f.params.toList s.vars apart W args.toList ds X w) (hb:Below W.heap.size W G) :
  s.post enc P f apart fresh d again W args (.bool true) G:=by
 have D:=N;obtain ⟨p,q,h1,h2,rfl,O,Q⟩:=N;have U:=h2;rw [L] at U;obtain ⟨rfl,rfl⟩:=trodVars_none U;have y:∀ x ∈ p++[],x.block < W.heap.size:=fun x hx=>D.lt x hx
 simp only [gt] at y O Q D;have e:∀ sp:Nat→Bool,(∀ x ∈ p,sp x.block=true)→DataW.TrodAll enc P G 0 sp true f.params.toList args.toList ds p:=fun sp K=>vl laid hb C h1 y K
 have j:∀ sp:Nat→Bool,DataW.TrodVars enc P G sp s.vars [] []:=fun sp=>by rw [L]; rfl
 have A:∀ (b:Nat) (sp:Nat→Bool) (hd:Bool),DataW.TrodAll enc P G b sp hd f.resultTypes.toList ((Value.bool true).resultList f.resultTypes.size) [.lit (.bool true)] []:=fun b sp hd=>by rw [I];exact trodAll_mk1 (shut_bool J true)
 refine ⟨ds,[],p,[],p,[],D,?_,?_,?_,?_,fun _=>⟨ok_one I rfl (okWide_bool_mk J true),_,[],p,⟨[]++p,[],trodAll_append (e (fun _=>true) fun _ _=>rfl) (A 0 (fun _=>true) true),j (fun _=>true),by simp,?_,fun ha=>by simpa using Q ha⟩,fun x hx _=>hx⟩⟩
 ·rw [gt,B]; exact A _ _ _
 ·rw [gt,B]; exact e _ fun x hx=>by simpa using y x hx
 ·rw [gt,B]; exact j _
 ·exact World.keptBut_mono (fun x hx=>⟨hx,.inr (.inl hx)⟩) (hb.frame (· ∈ p))
 ·intro b off V;rw [hb.frozen (y _ V)];exact O b off V
theorem sw {P:Program} {k:Nat}:∀ {ts j:List TypeId} {l m:List (DataW H)},l.length=ts.length→k ∈ DataW.weightsEach P ts l→k ∈ DataW.weightsEach P (ts++j) (l++m)
 | [],j,[],m,_,h=>by simp [DataW.weightsEach] at h
 | t :: ts,j,d :: l,m,e,h=>by
  simp only [fh,DataW.weightsEach,bz] at h ⊢;rcases h with h | h
  ·exact .inl h
  ·exact .inr (sw (by simpa using e) h)
 | [],_,_ :: _,_,e,_=>by simp at e
 | _ :: _,_,[],_,e,_=>by simp at e
end
end Go.Abs

namespace Go.Abs
open Go.RowKit Go.ChangeShapes
section
variable {H:Type} {enc:TypeId × Value→H} {held:Bool}
theorem IsCode.of_k {E:Env} {g k:Nat} {fn:Func} {hint:Hint} {closed:Bool} {af:AFunc} (l:List (Nat × Nat)) (j:E.gid=fun f=>List.lookup f l) (q:(l.all fun p=>p.2 != g || p.1 == k)=true) (w:E.P.funcs[k]? = some fn) (hc:uo E closed hint fn=some af) (hr:RndOK E af.body.rounds):IsCode E g af:=by
 intro f d;rw [j] at d
 have key:∀ {l:List (Nat × Nat)},List.lookup f l=some g→(f,g) ∈ l:=by
  intro l;induction l with
  | nil=>intro h; cases h
  | cons a r ih =>
   obtain ⟨x,y⟩:=a;intro h;rw [List.lookup_cons] at h;split at h
   ·rename_i e;have:f=x:=by simpa using e
    subst this;cases h;exact a8 ..
   ·exact bd _ (ih h)
 have:=ap.1 q _ (key d);simp at this;subst this;exact ⟨fn,hint,closed,w,hc,hr⟩
theorem law_callsD {E:Env} {f:FuncId} {g:Nat} (C:E.gid f=some g) {n:Nat} {ts:List TypeId} {ss:List Sh} (y:shAll E.P n ts=some ss)
  (p:∀ (h:Heap) (l:List Dat) (aZ:List AVal),HasArgs h ss l aZ→h.base=h.size→h.wmin=h.size→CallD E g aZ h fun v h'=>v = .bool true∧h'=h)
  {W:World} (q:Tabs E [] 0 W) {r:Reach} {base:Nat} {args:Array Value} {ds:List (DataW H)} {ps:List MemPlace} (D:DataW.TrodAll enc E.P W 0 (fun _=>true) held ts args.toList ds ps) (G:∀ k ∈ DataW.weightsEach E.P ts ds,k≤iu)
  (I:∀ (j:Nat) (t:TypeId) (v:Value),ts[j]? = some t→args.toList[j]? = some v→Value.okWide E.P W r base t v) :
  Calls E.P f args W fun e A=>e = .returned (.bool true)∧Below W.heap.size W A:=by
 obtain ⟨ν,J,aZ,l,B,K,L⟩:=args_read D G y I [] [] (rel_none q);have hx:=p _ l aZ L rfl rfl;refine (callsIn_wide.1 (hx f C _ _ _ K B)).mono fun e A ⟨v,h',⟨N,O⟩,_,v',μ',Q,d,w,_⟩=>?_
 subst N; subst O;simp only [VRel] at w;subst w;refine ⟨Q,d.os,d.tape,d.output,d.size,fun k U=>d.block k U (fun h=>h) fun i m hi hm=>?_⟩;have h1:=ah hm;have h2:([]++ν:MM).length=([]++J).length:=B.len;simp only [H0] at hi;omega
theorem law_contractD {E:Env} {f:FuncId} {g:Nat} (X:E.gid f=some g) {n:Nat} {fn:Func} {ss:List Sh} (D:shAll E.P n fn.params.toList=some ss)
  (A:∀ (h:Heap) (l:List Dat) (aZ:List AVal),HasArgs h ss l aZ→h.base=h.size→h.wmin=h.size→CallD E g aZ h fun v h'=>v = .bool true∧h'=h)
  {s:ChangeSpec} (hv:s.vars=[]) (G:∀ ds:List (DataW H),ds.length=fn.params.toList.length→s.fn H ds = { results:=[.lit (.bool true)],args:=ds })
  (laid:laidOutB E.P=true) (y:(fn.params.toList.all fun t=>E.P.readableRec t && decide (t < E.P.types.size))=true) {tb:TypeId} (I:fn.resultTypes = #[tb]) (J:E.P.underlying tb=some .bool)
  {apart fresh d again:Bool} {W:World} {base:Nat} {args:Array Value} {ds K:List (DataW H)} {w:List MemPlace}
  (B:∀ (j:Nat) t v,fn.params[j]? = some t→args[j]? = some v→Value.okWide E.P W .any base t v) (Q:DataW.Whole enc E.P fn.params.toList s.vars apart W args.toList ds K w) (U:(DataW.weightsEach E.P (fn.params.toList++s.plain.varTypes E.P) (ds++K)).all (· ≤ reachBytes)=true) (C:Tabs E [] 0 W:=by exact ⟨fk _,fun _ h=>by cases h⟩) :
  Calls E.P f args W fun e V=>∃ v,e = .returned v∧s.post enc E.P fn apart fresh d again W args v V:=by
 have L:=Q;obtain ⟨p,q,h1,_⟩:=Q;have hl:=qe h1
 have N:∀ k ∈ DataW.weightsEach E.P fn.params.toList ds,k≤iu:=fun k hk=>by rw [ap] at U;have hm:k ∈ DataW.weightsEach E.P (fn.params.toList++s.plain.varTypes E.P) (ds++K):=sw hl hk;have h1:k≤reachBytes:=of_decide_eq_true (U k hm);exact h1
 refine (law_callsD X D A C h1 N (fun j t v ht O=>B j t v (by simpa using ht) (by simpa using O))).mono fun e V ⟨he,hb⟩=>?_
 exact ⟨_,he,post_true hv (G ds (qe h1)) laid y I J L hb⟩
end
end Go.Abs

namespace Go.Abs
theorem agrees_alt {P:Program} {T j:Nat→Option AFunc} {l:List (Nat × Nat)} {room glob:Nat} {tabs:List (Nat × (Obj→Prop))} (hr:∀ g ar,rndOf T g=some ar→rndOf j g=some ar) (h:AgreesL ⟨P,fun f=>List.lookup f l,rndOf T,room,glob,tabs⟩ j l):Agrees ⟨P,fun f=>List.lookup f l,rndOf T,room,glob,tabs⟩ j:=by
 constructor
 ·intro f g d;simp only at d
  have:∀ {r:List (Nat × Nat)},AgreesL ⟨P,fun f=>List.lookup f l,rndOf T,room,glob,tabs⟩ j r→List.lookup f r=some g→FnOK ⟨P,fun f=>List.lookup f l,rndOf T,room,glob,tabs⟩ j f g:=by
   intro r;induction r with
   | nil=>intro _ h1; simp at h1
   | cons p r ih =>
    intro h1 h2;obtain ⟨a,b⟩:=p;simp only [AgreesL] at h1;rw [List.lookup_cons] at h2;split at h2
    ·rename_i e;rw [beq_iff_eq] at e;subst e;cases h2;exact h1.1
    ·exact ih h1.2 h2
  exact this h d
 ·intro g ar d;have d:=hr g ar d;simp only [rndOf,ic] at d;obtain ⟨af,h1,s,h2,q⟩:=d;cases s with
  | round r=>cases q; exact ⟨af,h1,h2⟩
  | lib _=>cases q
end Go.Abs
