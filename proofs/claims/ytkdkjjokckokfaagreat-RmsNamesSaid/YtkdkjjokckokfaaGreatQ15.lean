/-
  Texts joined.
-/
import Derived.Test.YtkdkjjokckokfaaGreatQ0
import Derived.Test.YtkdkjjokckokfaaGreatQ6
import Derived.ProofKit
import Derived.Test.YtkdkjjokckokfaaGreatQ10
set_option linter.unusedVariables false
set_option linter.unusedSimpArgs false
set_option maxRecDepth 100000
namespace Go.Abs
open Go.RowKit Go.ChangeShapes
section
variable {H:Type} {enc:TypeId × Value→H} {P:Program}
theorem ug {W W':World} (laid:laidOutB P=true) (hb:Below W.heap.size W W') {sp:Nat→Bool}:∀ {ts:List TypeId} {vs:List Value} {ds:List (DataW H)} {ps:List MemPlace},
  (ts.all fun t=>P.readableRec t && decide (t < P.types.size))=true→DataW.TrodAll enc P W 0 (fun _=>true) true ts vs ds ps→(∀ x ∈ ps,x.block < W.heap.size)→(∀ p ∈ ps,sp p.block=true)→DataW.TrodAll enc P W' 0 sp true ts vs ds ps
 | [],[],[],ps,_,h,_,_=>h
 | t :: ts,v :: vs,d :: ds,ps,hr,h,hlt,hsp=>by
  simp only [List.all_cons,a7,decide_eq_true_eq] at hr;obtain ⟨p,q,h1,h2,rfl⟩:=h
  exact ⟨p,q,WideElems.Trod_stays laid hr.1.1 hr.1.2 h1 (fun x hx=>hb.same (hlt x (e9 _ hx))) (fun x hx=>hsp x (e9 _ hx)),
   ug laid hb hr.2 h2 (fun x hx=>hlt x (gc _ hx)) (fun x hx=>hsp x (gc _ hx)),rfl⟩
 | [],_ :: _,_,_,_,h,_,_=>by simp [DataW.TrodAll] at h
 | [],[],_ :: _,_,_,h,_,_=>by simp [DataW.TrodAll] at h
 | _ :: _,[],_,_,_,h,_,_=>by simp [DataW.TrodAll] at h
 | _ :: _,_ :: _,[],_,_,h,_,_=>by simp [DataW.TrodAll] at h
theorem pw {W:World} {base:Nat} {sp:Nat→Bool} {hd:Bool}:∀ {ts:List TypeId} {vs:List Value} {ds:List (DataW H)} {ps:List MemPlace},DataW.TrodAll enc P W base sp hd ts vs ds ps→ds.length=ts.length
 | [],[],[],_,_=>rfl
 | _ :: _,_ :: _,_ :: _,_,h=>by obtain ⟨_,_,_,h2,_⟩:=h;simpa using pw h2
 | [],_ :: _,_,_,h=>by simp [DataW.TrodAll] at h
 | [],[],_ :: _,_,h=>by simp [DataW.TrodAll] at h
 | _ :: _,[],_,_,h=>by simp [DataW.TrodAll] at h
 | _ :: _,_ :: _,[],_,h=>by simp [DataW.TrodAll] at h
theorem post_true {f:Func} {s:ChangeSpec} {apart fresh handsOn again:Bool} {W W':World} {args:Array Value} {ds gs:List (DataW H)} {before:List MemPlace} (hv:s.vars=[])
  (hfn:s.fn H ds = { results:=[.lit (.bool true)],args:=ds }) (laid:laidOutB P=true) (hread:(f.params.toList.all fun t=>P.readableRec t && decide (t < P.types.size))=true)
  {tb:TypeId} (hrt:f.resultTypes = #[tb]) (htb:P.underlying tb=some .bool) (hW:DataW.Whole enc P f.params.toList s.vars apart W args.toList ds gs before) (hb:Below W.heap.size W W') :
  s.post enc P f apart fresh handsOn again W args (.bool true) W':=by
 have hW':=hW;obtain ⟨p,q,h1,h2,rfl,hz,hn⟩:=hW;have h3:=h2;rw [hv] at h3;obtain ⟨rfl,rfl⟩:=trodVars_none h3;have hlt:∀ x ∈ p++[],x.block < W.heap.size:=fun x hx=>hW'.lt x hx
 simp only [gq] at hlt hz hn hW';have hargs:∀ sp:Nat→Bool,(∀ x ∈ p,sp x.block=true)→DataW.TrodAll enc P W' 0 sp true f.params.toList args.toList ds p:=fun sp hsp=>ug laid hb hread h1 hlt hsp
 have hvars:∀ sp:Nat→Bool,DataW.TrodVars enc P W' sp s.vars [] []:=fun sp=>by rw [hv]; rfl
 have hres:∀ (b:Nat) (sp:Nat→Bool) (hd:Bool),DataW.TrodAll enc P W' b sp hd f.resultTypes.toList ((Value.bool true).resultList f.resultTypes.size) [.lit (.bool true)] []:=fun b sp hd=>by rw [hrt];exact trodAll_mk1 (shut_bool htb true)
 refine ⟨ds,[],p,[],p,[],hW',?_,?_,?_,?_,fun _=>⟨ok_one hrt rfl (okWide_bool_mk htb true),_,[],p,⟨[]++p,[],trodAll_append (hargs (fun _=>true) fun _ _=>rfl) (hres 0 (fun _=>true) true),hvars (fun _=>true),by simp,?_,fun ha=>by simpa using hn ha⟩,fun x hx _=>hx⟩⟩
 ·rw [gq,hfn]; exact hres _ _ _
 ·rw [gq,hfn]; exact hargs _ fun x hx=>by simpa using hlt x hx
 ·rw [gq,hfn]; exact hvars _
 ·exact World.keptBut_mono (fun x hx=>⟨hx,.inr (.inl hx)⟩) (hb.frame (· ∈ p))
 ·intro b off hp;rw [hb.frozen (hlt _ hp)];exact hz b off hp
theorem rz {P:Program} {k:Nat}:∀ {ts us:List TypeId} {l m:List (DataW H)},l.length=ts.length→k ∈ DataW.weightsEach P ts l→k ∈ DataW.weightsEach P (ts++us) (l++m)
 | [],us,[],m,_,h=>by simp [DataW.weightsEach] at h
 | t :: ts,us,d :: l,m,hl,h=>by
  simp only [d7,DataW.weightsEach,bw] at h ⊢;rcases h with h | h
  ·exact .inl h
  ·exact .inr (rz (by simpa using hl) h)
 | [],_,_ :: _,_,hl,_=>by simp at hl
 | _ :: _,_,[],_,hl,_=>by simp at hl
end
end Go.Abs

namespace Go.Abs
open Go.RowKit Go.ChangeShapes
section
variable {H:Type} {enc:TypeId × Value→H} {held:Bool}
theorem IsCode.of_k {E:Env} {g k:Nat} {fn:Func} {hint:Hint} {closed:Bool} {af:AFunc} (l:List (Nat × Nat)) (hl:E.gid=fun f=>List.lookup f l) (hu:(l.all fun p=>p.2 != g || p.1 == k)=true) (hf:E.P.funcs[k]? = some fn) (hc:tq E closed hint fn=some af) (hr:RndOK E af.body.rounds):IsCode E g af:=by
 intro f hg;rw [hl] at hg
 have key:∀ {l:List (Nat × Nat)},List.lookup f l=some g→(f,g) ∈ l:=by
  intro l;induction l with
  | nil=>intro h; cases h
  | cons a r ih =>
   obtain ⟨x,y⟩:=a;intro h;rw [List.lookup_cons] at h;split at h
   ·rename_i e;have:f=x:=by simpa using e
    subst this;cases h;exact bg ..
   ·exact bj _ (ih h)
 have:=au.1 hu _ (key hg);simp at this;subst this;exact ⟨fn,hint,closed,hf,hc,hr⟩
theorem law_callsD {E:Env} {f:FuncId} {g:Nat} (hg:E.gid f=some g) {n:Nat} {ts:List TypeId} {ss:List Sh} (hss:shAll E.P n ts=some ss)
  (hlaw:∀ (h:Heap) (l:List Dat) (aZ:List AVal),HasArgs h ss l aZ→h.base=h.size→h.wmin=h.size→CallD E g aZ h fun v h'=>v = .bool true∧h'=h)
  {W:World} (htab:Tabs E [] 0 W) {r:Reach} {base:Nat} {args:Array Value} {ds:List (DataW H)} {ps:List MemPlace} (ht:DataW.TrodAll enc E.P W 0 (fun _=>true) held ts args.toList ds ps) (hz:∀ k ∈ DataW.weightsEach E.P ts ds,k≤ja)
  (hv:∀ (j:Nat) (t:TypeId) (v:Value),ts[j]? = some t→args.toList[j]? = some v→Value.okWide E.P W r base t v) :
  Calls E.P f args W fun e W'=>e = .returned (.bool true)∧Below W.heap.size W W':=by
 obtain ⟨ν,zs,aZ,l,k1,k2,k3⟩:=args_read ht hz hss hv [] [] (rel_none htab);have hx:=hlaw _ l aZ k3 rfl rfl;refine (callsIn_wide.1 (hx f hg _ _ _ k2 k1)).mono fun e W' ⟨v,h',⟨e1,e2⟩,_,v',μ',he,hst,hvr,_⟩=>?_
 subst e1; subst e2;simp only [VRel] at hvr;subst hvr;refine ⟨he,hst.os,hst.tape,hst.output,hst.size,fun k hk=>hst.block k hk (fun h=>h) fun i m hi hm=>?_⟩;have h1:=ah hm;have h2:([]++ν:MM).length=([]++zs).length:=k1.len;simp only [H0] at hi;omega
theorem law_contractD {E:Env} {f:FuncId} {g:Nat} (hg:E.gid f=some g) {n:Nat} {fn:Func} {ss:List Sh} (hss:shAll E.P n fn.params.toList=some ss)
  (hlaw:∀ (h:Heap) (l:List Dat) (aZ:List AVal),HasArgs h ss l aZ→h.base=h.size→h.wmin=h.size→CallD E g aZ h fun v h'=>v = .bool true∧h'=h)
  {s:ChangeSpec} (hv:s.vars=[]) (hfn:∀ ds:List (DataW H),ds.length=fn.params.toList.length→s.fn H ds = { results:=[.lit (.bool true)],args:=ds })
  (laid:laidOutB E.P=true) (hread:(fn.params.toList.all fun t=>E.P.readableRec t && decide (t < E.P.types.size))=true) {tb:TypeId} (hrt:fn.resultTypes = #[tb]) (htb:E.P.underlying tb=some .bool)
  {apart fresh handsOn again:Bool} {W:World} {base:Nat} {args:Array Value} {ds gs:List (DataW H)} {before:List MemPlace}
  (hval:∀ (j:Nat) t v,fn.params[j]? = some t→args[j]? = some v→Value.okWide E.P W .any base t v) (hW:DataW.Whole enc E.P fn.params.toList s.vars apart W args.toList ds gs before) (hz:(DataW.weightsEach E.P (fn.params.toList++s.plain.varTypes E.P) (ds++gs)).all (· ≤ reachBytes)=true) (htab:Tabs E [] 0 W:=by exact ⟨ge _,fun _ h=>by cases h⟩) :
  Calls E.P f args W fun e W'=>∃ v,e = .returned v∧s.post enc E.P fn apart fresh handsOn again W args v W':=by
 have hW':=hW;obtain ⟨p,q,h1,_⟩:=hW;have hl:=pw h1
 have hz':∀ k ∈ DataW.weightsEach E.P fn.params.toList ds,k≤ja:=fun k hk=>by rw [au] at hz;have hm:k ∈ DataW.weightsEach E.P (fn.params.toList++s.plain.varTypes E.P) (ds++gs):=rz hl hk;have h1:k≤reachBytes:=of_decide_eq_true (hz k hm);exact h1
 refine (law_callsD hg hss hlaw htab h1 hz' (fun j t v ht hv'=>hval j t v (by simpa using ht) (by simpa using hv'))).mono fun e W' ⟨he,hb⟩=>?_
 exact ⟨_,he,post_true hv (hfn ds (pw h1)) laid hread hrt htb hW' hb⟩
end
end Go.Abs

namespace Go.Abs
theorem agrees_alt {P:Program} {T T1:Nat→Option AFunc} {l:List (Nat × Nat)} {room glob:Nat} {tabs:List (Nat × (Obj→Prop))} (hr:∀ g ar,rndOf T g=some ar→rndOf T1 g=some ar) (h:AgreesL ⟨P,fun f=>List.lookup f l,rndOf T,room,glob,tabs⟩ T1 l):Agrees ⟨P,fun f=>List.lookup f l,rndOf T,room,glob,tabs⟩ T1:=by
 constructor
 ·intro f g hg;simp only at hg
  have:∀ {r:List (Nat × Nat)},AgreesL ⟨P,fun f=>List.lookup f l,rndOf T,room,glob,tabs⟩ T1 r→List.lookup f r=some g→FnOK ⟨P,fun f=>List.lookup f l,rndOf T,room,glob,tabs⟩ T1 f g:=by
   intro r;induction r with
   | nil=>intro _ h1; simp at h1
   | cons p r ih =>
    intro h1 h2;obtain ⟨a,b⟩:=p;simp only [AgreesL] at h1;rw [List.lookup_cons] at h2;split at h2
    ·rename_i e;rw [beq_iff_eq] at e;subst e;cases h2;exact h1.1
    ·exact ih h1.2 h2
  exact this h hg
 ·intro g ar hg;have hg:=hr g ar hg;simp only [rndOf,ip] at hg;obtain ⟨af,h1,s,h2,h3⟩:=hg;cases s with
  | round r=>cases h3; exact ⟨af,h1,h2⟩
  | lib _=>cases h3
end Go.Abs
