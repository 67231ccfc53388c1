/-
  Texts joined.
-/
import Derived.Test.YtilleokmbhmieaaGreatDoorQ0
import Derived.Test.YtilleokmbhmieaaGreatDoorQ6
import Derived.Lib.MakeNoZero
import Derived.Test.YtilleokmbhmieaaGreatDoorQ7
import Derived.Test.YtilleokmbhmieaaGreatDoorQ8
import Derived.Lib.ParseIntB
import Derived.Lib.ItoaMem
set_option linter.unusedVariables false
set_option linter.unusedSimpArgs false
set_option maxRecDepth 100000
namespace Go.Abs
section
variable {E:Env} {T:Nat→Option AFunc}
def CallD (E:Env) (g:Nat) (args:List AVal) (h:Heap) (R:AVal→Heap→Prop):Prop :=
  ∀ f,E.gid f=some g→∀ (μ:MM) (w:World) (args':Array Value),VRels E μ args args'.toList→Rel E μ h w→CallsIn (F0 none) 0 E.P f args' w fun e w'=>∃ v h',R v h'∧Evol h h'∧Ends E μ w v h' e w'
def CodeD (E:Env) (c:ACode) (st:St) (Q:AExit→St→Prop):Prop :=
  ∀ (nt:Nat) (hint:Hint) (code:Code),eo E nt false hint code=some c→(∀ p ∈ c.rounds,E.rnd p.1=some p.2)→∀ (lo:Nat) (μ0:MM) (w0:World) (ds:List Deferred) (a:Act) (w:World) (Qm:Exit→Act→World→Prop),At E lo nt μ0 w0 ds st.s st.h a w →
    (∀ e st',Q e st'→Evol st.h st'.h→∀ a' w',At E lo nt μ0 w0 ds st'.s st'.h a' w'→Qm e.toX a' w')→code.wpIn (F0 none) 0 E.P Qm a w
theorem CodeD.of_x (hT:Agrees E T) (hm:E.P.follows .mixedOrders=true) {c:ACode} {st st':St} {e:AExit} {Q:AExit→St→Prop} (h:je T c st=some (e,st')) (hq:Q e st'):CodeD E c st Q:=by intro nt hint code hcc hrd lo μ0 w0 ds a w Qm hat hn;obtain ⟨n,hn'⟩:=(dm T _ _ _).1 h;exact oq (ng hT hm n) (lf T n) hT.gid hm false (fun _=>rfl) n hint code c hcc (fun _=>hrd) st e st' hn' a w Qm hat (hn e st' hq (mh (lf T n) n _ _ _ _ hn'))
theorem inv_seq {nt:Nat} {hint:Hint} {code:Code} {a b:ACode} (h:eo E nt false hint code=some (.seq a b)) (hne:∀ d x,a ≠ .next d x):∃ ha hb x y,code = .seq x y∧eo E nt false ha x=some a∧eo E nt false hb y=some b:=by
  cases hint with
  | seq ha hb =>
    cases code <;> simp only [eo,reduceCtorEq] at h
    rename_i x y;split at h
    · rename_i p q h1 h2; cases h; exact ⟨_,_,_,_,rfl,h1,h2⟩
    · cases h
  | next =>
    obtain ⟨d,y,r,e⟩:=qg h;cases e;exact absurd rfl (hne d y)
  | live l a=>simp only [eo,ae] at h; obtain ⟨_,_,h⟩:=h; cases h
  | after a l=>simp only [eo,ae] at h; obtain ⟨_,_,h⟩:=h; cases h
  | stuck=>simp only [eo] at h; cases h
  | leaf=>cases code <;> simp only [eo] at h <;> cases h
  | reg s l=>cases code <;> simp only [eo,ae,reduceCtorEq] at h; obtain ⟨_,_,h⟩:=h; cases h
  | cond a b =>
    cases code <;> simp only [eo,reduceCtorEq] at h
    split at h <;> cases h
  | block a=>cases code <;> simp only [eo,ae,reduceCtorEq] at h; obtain ⟨_,_,h⟩:=h; cases h
  | loop a=>cases code <;> simp only [eo,ae,reduceCtorEq] at h; obtain ⟨_,_,h⟩:=h; cases h
  | rangeFunc g c a b =>
    cases code <;> simp only [eo,reduceCtorEq] at h
    split at h
    · split at h <;> cases h
    · cases h
theorem CodeD.seq {a b:ACode} {st:St} {Q:AExit→St→Prop} (hne:∀ d x,a ≠ .next d x) (h:CodeD E a st fun e st'=>match e with | .normal=>CodeD E b st' Q | e=>Q e st'):CodeD E (.seq a b) st Q:=by
  intro nt hint code hcc hrd lo μ0 w0 ds t w Qm hat hn;obtain ⟨ha,hb,x,y,rfl,h1,h2⟩:=inv_seq hcc hne;apply wpIn_seq;refine h nt ha x h1 (fun p hp=>hrd p (by simp [ACode.rounds,hp])) lo μ0 w0 ds t w _ hat fun e st' hq hev a' w' hat'=>?_
  cases e with
  | normal=>exact hq nt hb y h2 (fun p hp=>hrd p (by simp [ACode.rounds,hp])) lo μ0 w0 ds a' w' Qm hat' fun e2 st2 hq2 hev2=>hn e2 st2 hq2 (hev.trans hev2)
  | exit i=>exact hn _ _ hq hev _ _ hat'
  | ret=>exact hn _ _ hq hev _ _ hat'
theorem inv_after {nt:Nat} {hint:Hint} {code:Code} {l:List Nat} {a:ACode} (h:eo E nt false hint code=some (.after a l)):∃ ha,eo E nt false ha code=some a:=by
  cases hint with
  | after a l=>simp only [eo,ae] at h; obtain ⟨_,h1,h⟩:=h; cases h; exact ⟨_,h1⟩
  | next=>obtain ⟨d,y,r,e⟩:=qg h; cases e
  | live l a=>simp only [eo,ae] at h; obtain ⟨_,_,h⟩:=h; cases h
  | stuck=>simp only [eo] at h; cases h
  | leaf=>cases code <;> simp only [eo] at h <;> cases h
  | reg s l=>cases code <;> simp only [eo,ae,reduceCtorEq] at h; obtain ⟨_,_,h⟩:=h; cases h
  | seq a b =>
    cases code <;> simp only [eo,reduceCtorEq] at h
    split at h <;> cases h
  | cond a b =>
    cases code <;> simp only [eo,reduceCtorEq] at h
    split at h <;> cases h
  | block a=>cases code <;> simp only [eo,ae,reduceCtorEq] at h; obtain ⟨_,_,h⟩:=h; cases h
  | loop a=>cases code <;> simp only [eo,ae,reduceCtorEq] at h; obtain ⟨_,_,h⟩:=h; cases h
  | rangeFunc g c a b =>
    cases code <;> simp only [eo,reduceCtorEq] at h
    split at h
    · split at h <;> cases h
    · cases h
theorem CodeD.after {l:List Nat} {c:ACode} {st:St} {Q:AExit→St→Prop} (h:CodeD E c st fun e st'=>match e with | .normal=>Q .normal ⟨keepK l st'.s,st'.h⟩ | e=>Q e st'):CodeD E (.after c l) st Q:=by
  intro nt hint code hcc hrd lo μ0 w0 ds u w Qm hat hn;obtain ⟨ha,h1⟩:=inv_after hcc;refine h nt ha code h1 hrd lo μ0 w0 ds u w _ hat fun e st' hq hev a' w' hat'=>?_
  cases e with
  | normal =>
    simp only at hq;rw [pk] at hq;exact hn _ _ hq hev _ _ (hat'.keep l)
  | exit i=>exact hn _ _ hq hev _ _ hat'
  | ret=>exact hn _ _ hq hev _ _ hat'
inductive OpsD (E:Env) (T:Nat→Option AFunc) (K:Slots→Heap→Prop):List AOper→Slots→Heap→Prop
  | done {s:Slots} {h:Heap}:K s h→OpsD E T K [] s h
  | op {o:AOper} {r:List AOper} {s s1:Slots} {h h1:Heap}:d7 (xCall T) o s h=some (s1,h1)→OpsD E T K r s1 h1→OpsD E T K (o :: r) s h
  | call {o:AOper} {r:List AOper} {s:Slots} {h:Heap} {g:Nat} {xs:List Opd} {vs:List AVal} {R:AVal→Heap→Prop}:o.guard=none→o.op = .callg g xs→evs s xs=some vs→CallD E g vs h R→(∀ v h',R v h'→OpsD E T K r (a8 o.dst (.val v) s) h')→OpsD E T K (o :: r) s h
  | callv {o:AOper} {r:List AOper} {s:Slots} {h:Heap} {g:Nat} {x:Opd} {xs:List Opd} {first caps vs:List AVal} {R:AVal→Heap→Prop}:o.guard=none→o.op = .call x xs→x.ev s=some (.func g first caps)→evs s xs=some vs→CallD E g (first++vs++caps) h R→(∀ v h',R v h'→OpsD E T K r (a8 o.dst (.val v) s) h')→OpsD E T K (o :: r) s h
  | noZero {o:AOper} {r:List AOper} {s:Slots} {h:Heap} {x:Opd} {n:Nat}:o.guard=none→o.op = .ext (.pure (.prim .noZero)) [x]→x.ev s=some (.int .i64 n)→n≤140737488355328 →
      (∀ bs:List UInt8,bs.length=n→OpsD E T K r (a8 o.dst (.val (.slice (some (h.size,0)) n none)) s) (h.push (.cells 1 (bs.map fun b=>.int .u8 b.toNat))))→OpsD E T K (o :: r) s h
theorem OpsD.ops {K:Slots→Heap→Prop}:∀ {l r:List AOper} {s s1:Slots} {h h1:Heap},evOps (xCall T) l s h=some (s1,h1)→OpsD E T K r s1 h1→OpsD E T K (l++r) s h
  | [],r,s,s1,h,h1,e,k=>by simp only [evOps] at e; cases e; exact k
  | o :: l,r,s,s1,h,h1,e,k=>by
    simp only [evOps] at e;split at e;case h_2=>cases e
    rename_i s2 h2 e2;exact .op e2 (OpsD.ops e k)
section
variable {lo nt:Nat} {μ0:MM} {w0:World} {ds:List Deferred} {s:Slots} {h:Heap} {a:Act} {w:World} {ops:Array Oper} {Q:Exit→Act→World→Prop}
theorem run_soundD (hg:GidOK E) {loc:Bool} {o:Oper} {o':AOper} {g:Nat} {xs:List Opd} {vs:List AVal} {R:AVal→Heap→Prop} (hop:ka E nt ops loc o=some o') (hcall:o'.op = .callg g xs) (hgd:o'.guard=none) (hvs:evs s xs=some vs) (hcd:CallD E g vs h R)
    (hat:At E lo nt μ0 w0 ds s h a w) {next:Act→World→Prop} (hn:∀ v h',R v h'→Evol h h'→∀ a' w',At E lo nt μ0 w0 ds (a8 o'.dst (.val v) s) h' a' w'→next a' w') :
    if Region.wanted o (yielded ops a.tmps) then o.wpIn (F0 none) 0 E.P a w next Q else next (a.put o.dst Go.undef) w:=by
  unfold ka at hop;split at hop;case isFalse=>cases hop
  rename_i hh;simp only [aw,c7,gb] at hh;have hd:∀ t,o.dst=some t→t < nt:=fun t ht=>by have:=hh.1; rw [ht] at this; simpa using this
  split at hop
  case h_2 =>
    exfalso;split at hop;case h_2=>cases hop
    cases hop;cases hgd
  rename_i hg0;cases hop;have hw:Region.wanted o (yielded ops a.tmps)=true:=by simp [Region.wanted,hg0]
  rw [if_pos hw];simp only at hcall hn
  have hao:cOp E loc o.op=some (.callg g xs):=by
    cases hco:cOp E loc o.op with
    | some ao=>rw [cOpS,hco] at hcall; simpa using hcall
    | none=>rw [cOpS,hco] at hcall; simp at hcall
  obtain ⟨μ,ν,k1,k2,k3,k4,k5,k6⟩:=hat;have hnd:∀ c,o.op ≠ .defer c:=fun c hc'=>by rw [hc'] at hao; simp [cOp] at hao
  refine ⟨fun _ _=>trivial,?_⟩;rw [Oper.semAt_eq _ _ _ hnd]
  have hcop:∃ c,o.op = .call c∧cCall E c=some (.callg g xs):=by
    cases ho:o.op with
    | call c=>exact ⟨c,rfl,by rw [ho] at hao; simpa only [cOp] using hao⟩
    | makeFunc fn x1 x2 =>
      rw [ho] at hao;exfalso;cases fn <;> simp only [cOp] at hao <;> (try (cases hao; done))
      split at hao <;> cases hao
    | makeMap t hint =>
      rw [ho] at hao;exfalso
      cases hint with
         | none=>simp [cOp] at hao
         | some y =>
           cases y with
           | const v=>cases v <;> simp only [cOp] at hao <;> first | (cases hao; done) | (split at hao <;> cases hao)
           | _=>simp [cOp] at hao
    | _ =>
      rw [ho] at hao;exfalso;simp only [cOp,cBin,cConv,cEq] at hao;repeat' split at hao
      all_goals first
        | (cases hao; done)
        | (rw [ae] at hao; obtain ⟨_,_,hao⟩:=hao; first | (cases hao; done) | (split at hao <;> cases hao))
  obtain ⟨c,hcop,hcc⟩:=hcop;unfold cCall at hcc;split at hcc
  · rename_i f hcal
    split at hcc
    case h_2 =>
      exfalso;rw [ae] at hcc;obtain ⟨_,_,hcc⟩:=hcc;cases hcc
    case h_3=>cases hcc
    rename_i g' aZ hgf has;cases hcc;have hargs:=js k3 has hvs
    have hrun:(execOp a.eval o).run E.P w = .ok (.enter f (c.args.map a.eval)) w:=by have:=jr hg hgf (c.args.map a.eval) w;simp [execOp,hcop,resolve,hcal,Act.eval,Deferred.ofValue,invoke,this]
    rw [hrun,Oper.uponIn_enter];refine ⟨fun hh=>by simp [F0,Fence.wide] at hh,?_⟩;refine CallsIn.mono (F:=F0 none) (n:=0) (hcd f hgf μ w (c.args.map a.eval) (by simpa using hargs) k2) fun e w' he=>?_
    obtain ⟨v,h',hR,hevol,v',μ',rfl,j1,j2,j3⟩:=he;refine hn v h' hR hevol _ _ ⟨μ',ν,?_,j3,?_,by rw [mz]; exact k4,by rw [kv]; exact k5,bz k6 j1.size⟩
    · exact k1.trans (j1.weaken (aj _) fun b hb _=>hb.elim) hevol.wmin
    · rw [ia]
      exact ((k3.step j1 fun b _ hb=>hb).setVal (fun y hy=>by rw [k4]; exact hd y hy) j2).congr fun t=>iq _ _ _ _
  · exfalso
    split at hcc;case h_2=>cases hcc
    cases hcc
  · exfalso
    repeat' split at hcc
    all_goals first
      | (cases hcc; done)
      | (rw [ae] at hcc; obtain ⟨_,_,hcc⟩:=hcc; cases hcc)
  · cases hcc
theorem run_soundV (hg:GidOK E) {loc:Bool} {o:Oper} {o':AOper} {g:Nat} {x:Opd} {xs:List Opd} {first caps vs:List AVal} {R:AVal→Heap→Prop} (hop:ka E nt ops loc o=some o') (hcall:o'.op = .call x xs) (hgd:o'.guard=none) (hxv:x.ev s=some (.func g first caps)) (hvs:evs s xs=some vs) (hcd:CallD E g (first++vs++caps) h R)
    (hat:At E lo nt μ0 w0 ds s h a w) {next:Act→World→Prop} (hn:∀ v h',R v h'→Evol h h'→∀ a' w',At E lo nt μ0 w0 ds (a8 o'.dst (.val v) s) h' a' w'→next a' w') :
    if Region.wanted o (yielded ops a.tmps) then o.wpIn (F0 none) 0 E.P a w next Q else next (a.put o.dst Go.undef) w:=by
  unfold ka at hop;split at hop;case isFalse=>cases hop
  rename_i hh;simp only [aw,c7,gb] at hh;have hd:∀ t,o.dst=some t→t < nt:=fun t ht=>by have:=hh.1; rw [ht] at this; simpa using this
  split at hop
  case h_2 =>
    exfalso;split at hop;case h_2=>cases hop
    cases hop;cases hgd
  rename_i hg0;cases hop;have hw:Region.wanted o (yielded ops a.tmps)=true:=by simp [Region.wanted,hg0]
  rw [if_pos hw];simp only at hcall hn
  have hao:cOp E loc o.op=some (.call x xs):=by
    cases hco:cOp E loc o.op with
    | some ao=>rw [cOpS,hco] at hcall; simpa using hcall
    | none=>rw [cOpS,hco] at hcall; simp at hcall
  obtain ⟨μ,ν,k1,k2,k3,k4,k5,k6⟩:=hat;have hnd:∀ c,o.op ≠ .defer c:=fun c hc'=>by rw [hc'] at hao; simp [cOp] at hao
  refine ⟨fun _ _=>trivial,?_⟩;rw [Oper.semAt_eq _ _ _ hnd]
  have hcop:∃ c,o.op = .call c∧cCall E c=some (.call x xs):=by
    cases ho:o.op with
    | call c=>exact ⟨c,rfl,by rw [ho] at hao; simpa only [cOp] using hao⟩
    | makeFunc fn x1 x2 =>
      rw [ho] at hao;exfalso;cases fn <;> simp only [cOp] at hao <;> (try (cases hao; done))
      split at hao <;> cases hao
    | makeMap t hint =>
      rw [ho] at hao;exfalso
      cases hint with
         | none=>simp [cOp] at hao
         | some y =>
           cases y with
           | const v=>cases v <;> simp only [cOp] at hao <;> first | (cases hao; done) | (split at hao <;> cases hao)
           | _=>simp [cOp] at hao
    | _ =>
      rw [ho] at hao;exfalso;simp only [cOp,cBin,cConv,cEq] at hao;repeat' split at hao
      all_goals first
        | (cases hao; done)
        | (rw [ae] at hao; obtain ⟨_,_,hao⟩:=hao; first | (cases hao; done) | (split at hao <;> cases hao))
  obtain ⟨c,hcop,hcc⟩:=hcop;unfold cCall at hcc;split at hcc
  · exfalso
    split at hcc
    case h_2 =>
      rw [ae] at hcc;obtain ⟨_,_,hcc⟩:=hcc;cases hcc
    case h_3=>cases hcc
    cases hcc
  · rename_i y hne hcal
    split at hcc;case h_2=>cases hcc
    rename_i y' aZ hy has;cases hcc;have hargs:=js k3 has hvs;have hfv:=bw k3 hy hxv;simp only [VRel] at hfv;obtain ⟨fid,f',c',q1,q2,q3,q4⟩:=hfv
    have hrun:(execOp a.eval o).run E.P w = .ok (.enter fid (f'++c.args.map a.eval++c')) w:=by have:=jr hg q2 (f'++(c.args.map a.eval++c')) w;simp [execOp,hcop,resolve,hcal,q1,Deferred.ofValue,invoke,this]
    rw [hrun,Oper.uponIn_enter];refine ⟨fun hh=>by simp [F0,Fence.wide] at hh,?_⟩;refine CallsIn.mono (F:=F0 none) (n:=0) (hcd fid q2 μ w (f'++c.args.map a.eval++c') (by simpa using (q3.append hargs).append q4) k2) fun e w' he=>?_
    obtain ⟨v,h',hR,hevol,v',μ',rfl,j1,j2,j3⟩:=he;refine hn v h' hR hevol _ _ ⟨μ',ν,?_,j3,?_,by rw [mz]; exact k4,by rw [kv]; exact k5,bz k6 j1.size⟩
    · exact k1.trans (j1.weaken (aj _) fun b hb _=>hb.elim) hevol.wmin
    · rw [ia]
      exact ((k3.step j1 fun b _ hb=>hb).setVal (fun y hy=>by rw [k4]; exact hd y hy) j2).congr fun t=>iq _ _ _ _
  · exfalso
    repeat' split at hcc
    all_goals first
      | (cases hcc; done)
      | (rw [ae] at hcc; obtain ⟨_,_,hcc⟩:=hcc; cases hcc)
  · cases hcc
theorem mnz_find {fn:Func} (h:fn.name = "internal/bytealg.MakeNoZero"):Extern.find fn=some (Extern.BytealgMakeNoZero.makeNoZero fn.params fn.resultTypes):=by
  have h1:Extern.allGenericRows.lookup "internal/bytealg.MakeNoZero" = none:=by kernel_rfl
  have h2:Extern.allTypedRows.lookup "internal/bytealg.MakeNoZero" = some Extern.BytealgMakeNoZero.makeNoZero:=by kernel_rfl
  unfold Extern.find;simp only [h,h1,h2];rfl
theorem mnz_next {fn:Func} (h:fn.name = "internal/bytealg.MakeNoZero") (ho:fn.origin = ""):Extern.findNext fn=none:=by
  have h1:Extern.allNextRows.lookup "internal/bytealg.MakeNoZero" = none:=by kernel_rfl
  have h3:Extern.allNextRows.lookup "" = none:=by kernel_rfl
  unfold Extern.findNext;simp only [h,ho,h1,h3];rfl
theorem xg:∀ (n t:Nat) (acc:Array Value),∃ ds:List UInt8,ds.length=n∧(Extern.BytealgMakeNoZero.digits n t acc).toList=acc.toList++ds.map fun b=>.int .u8 b.toNat
  | 0,_,acc=>⟨[],rfl,by simp [Extern.BytealgMakeNoZero.digits]⟩
  | n+1,t,acc=>by
    obtain ⟨ds,h1,h2⟩:=xg n (t / 256) (acc.push (.int .u8 (Int.ofNat (t % 256))));refine ⟨UInt8.ofNat (t % 256) :: ds,by simp [h1],?_⟩;rw [Extern.BytealgMakeNoZero.digits,h2];have:(UInt8.ofNat (t % 256)).toNat=t % 256:=by simp
    simp [this]
theorem run_mnz {P:Program} (w:World) (ps:Array TypeId) (t e:TypeId) (ht:P.underlying t=some (.slice e)) (n:Nat) (hn:n≤281474976710656) :
    ∃ (cs:Array Value) (ds:List UInt8),(Extern.BytealgMakeNoZero.makeNoZero ps #[t] #[.int .i64 n]).run P w = .ok (.slice (some ⟨w.heap.size,0,none⟩) n cs.size) (w.drew.drew.alloc (.cells cs e))∧n≤cs.size∧(n≤maxLen→cs.size≤maxLen)∧cs.toList=ds.map fun b=>.int .u8 b.toNat:=by
  have hdef:Extern.BytealgMakeNoZero.makeNoZero ps #[t] #[.int .i64 n] =
      (do
        let .slice elem ← underlying t | stuck "bytealg.MakeNoZero: slice type expected"
        if (n:Int) < 0 || (n:Int) > 2 ^ 48 then runtimePanic (.error "makeslice: len out of range")
        let cap ← choose (.appendCap (n:Int).toNat 0 elem)
        askRoom cap
        let bytes ← choose (.extern "internal/bytealg.MakeNoZero.bytes" 0)
        let a ← newRow elem (Extern.BytealgMakeNoZero.digits cap bytes #[])
        pure (.slice (some a) (n:Int).toNat cap)):=rfl
  obtain ⟨ds,h1,h2⟩:=xg (grownCap w n 0 e) ((Question.extern "internal/bytealg.MakeNoZero.bytes" 0).cut (w.tape (w.drawn+1) (.extern "internal/bytealg.MakeNoZero.bytes" 0))) #[];refine ⟨Extern.BytealgMakeNoZero.digits (grownCap w n 0 e) ((Question.extern "internal/bytealg.MakeNoZero.bytes" 0).cut (w.tape (w.drawn+1) (.extern "internal/bytealg.MakeNoZero.bytes" 0))) #[],ds,?_,?_,?_,by simpa using h2⟩
  · rw [hdef]
    have h1:¬ (n:Int) < 0:=by omega
    have h2:¬ (281474976710656:Int) < (n:Int):=by omega
    simp [run_underlying ht,h1,h2,Question.forced,newRow,Lib.size_digits,grownCap]
  · rw [Lib.size_digits]
    simpa using grownCap_ge w n 0 e
  · intro hm
    rw [Lib.size_digits];simpa using grownCap_le_maxLen w n 0 e hm
theorem run_noZero {loc:Bool} {o:Oper} {o':AOper} {x:Opd} {n:Nat} (hop:ka E nt ops loc o=some o') (hcall:o'.op = .ext (.pure (.prim .noZero)) [x]) (hgd:o'.guard=none) (hx:x.ev s=some (.int .i64 n)) (hn48:n≤140737488355328)
    (hat:At E lo nt μ0 w0 ds s h a w) {next:Act→World→Prop} (hn:∀ bs:List UInt8,bs.length=n→Evol h (h.push (.cells 1 (bs.map fun b=>.int .u8 b.toNat)))→∀ a' w',At E lo nt μ0 w0 ds (a8 o'.dst (.val (.slice (some (h.size,0)) n none)) s) (h.push (.cells 1 (bs.map fun b=>.int .u8 b.toNat))) a' w'→next a' w') :
    if Region.wanted o (yielded ops a.tmps) then o.wpIn (F0 none) 0 E.P a w next Q else next (a.put o.dst Go.undef) w:=by
  unfold ka at hop;split at hop;case isFalse=>cases hop
  rename_i hh;simp only [aw,c7,gb] at hh;have hd:∀ t,o.dst=some t→t < nt:=fun t ht=>by have:=hh.1; rw [ht] at this; simpa using this
  split at hop
  case h_2 =>
    exfalso;split at hop;case h_2=>cases hop
    cases hop;cases hgd
  rename_i hg0;cases hop;have hw:Region.wanted o (yielded ops a.tmps)=true:=by simp [Region.wanted,hg0]
  rw [if_pos hw];simp only at hcall hn
  have hao:cOp E loc o.op=some (.ext (.pure (.prim .noZero)) [x]):=by
    cases hco:cOp E loc o.op with
    | some ao=>rw [cOpS,hco] at hcall; simpa using hcall
    | none=>rw [cOpS,hco] at hcall; simp at hcall
  obtain ⟨μ,ν,k1,k2,k3,k4,k5,k6⟩:=hat;have hnd:∀ c,o.op ≠ .defer c:=fun c hc'=>by rw [hc'] at hao; simp [cOp] at hao
  refine ⟨fun _ _=>trivial,?_⟩;rw [Oper.semAt_eq _ _ _ hnd]
  have hcop:∃ c,o.op = .call c∧cCall E c=some (.ext (.pure (.prim .noZero)) [x]):=by
    cases ho:o.op with
    | call c=>exact ⟨c,rfl,by rw [ho] at hao; simpa only [cOp] using hao⟩
    | makeFunc fn x1 x2 =>
      rw [ho] at hao;exfalso;cases fn <;> simp only [cOp] at hao <;> (try (cases hao; done))
      split at hao <;> cases hao
    | makeMap t hint =>
      rw [ho] at hao;exfalso
      cases hint with
         | none=>simp [cOp] at hao
         | some y =>
           cases y with
           | const v=>cases v <;> simp only [cOp] at hao <;> first | (cases hao; done) | (split at hao <;> cases hao)
           | _=>simp [cOp] at hao
    | _ =>
      rw [ho] at hao;exfalso;simp only [cOp,cBin,cConv,cEq] at hao;repeat' split at hao
      all_goals first
        | (cases hao; done)
        | (rw [ae] at hao; obtain ⟨_,_,hao⟩:=hao; first | (cases hao; done) | (split at hao <;> cases hao))
  obtain ⟨c,hcop,hcc⟩:=hcop;unfold cCall at hcc;split at hcc
  · rename_i f hcal
    split at hcc;case h_1=>exfalso; cases hcc
    case h_3=>cases hcc
    rename_i aZ hgf has;rw [ae] at hcc;obtain ⟨k,hk,hcc⟩:=hcc;cases hcc;have hvs:evs s [x]=some [.int .i64 n]:=by unfold evs; rw [hx]; rfl
    have hargs:=js k3 has hvs;unfold primOf at hk;split at hk;case h_2=>cases hk
    rename_i fn hfn;split at hk;case isFalse=>cases hk
    rename_i hbo;split at hk
    · cases hk
    split at hk
    · cases hk
    split at hk;case isFalse=>cases hk
    rename_i hnm;obtain ⟨hname,hrow⟩:=hnm;unfold isRow at hrow;split at hrow;case h_2=>cases hrow
    rename_i t ht;split at hrow;case h_2=>cases hrow
    rename_i e hte;simp only [aw,decide_eq_true_eq] at hrow
    have hrt:fn.resultTypes = #[t]:=by
      have h1:=hrow.2;apply Array.ext
      · simpa using h1
      · intro i h2 h3
        simp at h3;subst h3;rw [kr (by omega)] at ht;simpa using cz ht
    have hnn:(fn.name == "runtime.NumGoroutine")=false:=by rw [hname]; decide
    simp only [VRels,VRel] at hargs;obtain ⟨v1,vr,e1,hv1,hvr⟩:=hargs;subst hv1
    have hargs:c.args.map a.eval = #[.int .i64 n]:=by apply Array.ext';simp only [Array.toList_map];rw [e1,hvr]
    have hrun:(execOp a.eval o).run E.P w=(callFunc f (c.args.map a.eval)).run E.P w:=by simp [execOp,hcop,resolve,hcal,Act.eval,Deferred.ofValue,invoke]
    obtain ⟨cs,dl,q1,q2,q3,q4⟩:=run_mnz (P:=E.P) w fn.params t e hte n (by omega);have hmx:cs.size≤9223372036854775807:=q3 (by unfold maxLen; omega);have hcl:cs.size=dl.length:=by have:=congrArg List.length q4; simpa using this
    rw [hargs,run_callFunc_extern hfn hnn hbo.1 (mnz_next hname hbo.2) (mnz_find hname),hrt,q1] at hrun;have hlen:h.size=μ.length:=k2.len.symm
    have hdone:OpDone E lo ν.ds μ w a o.dst ((execOp a.eval o).run E.P w) (.val (.slice (some (h.size,0)) n none)) s (h.push (.cells 1 ((dl.take n).map fun b=>.int .u8 b.toNat))):=by
      rw [hlen];refine ky k3 k2 (fun y hy=>by rw [k4]; exact hd y hy) _ (.cells cs e) ⟨w.heap.size,0,cs.size,1⟩ rfl hrun rfl rfl rfl rfl ?_ (nj rfl q2 (fun k hk=>by cases hk) (by simp) hmx);refine ⟨⟨w.heap.size,0,cs.size,1⟩,cs,e,(0,0),by simp,rfl,by simp,rfl,by simp; omega,fun k v hk=>?_,fun _=>⟨aj _,fun off _=>by simp⟩⟩;simp only [br,ae] at hk;obtain ⟨b,hb',rfl⟩:=hk;refine ⟨rfl,.int .u8 b.toNat,?_,by simp only [VRel]⟩
      have hb2:dl[k]? = some b:=by
        rw [ew] at hb';split at hb'
        · exact hb'
        · cases hb'
      rw [dh,← kx,q4,br,hb2]; rfl
    obtain ⟨v,w1,μ',ν',d1,d2,d3,d4,d5⟩:=hdone;have hbl:(dl.take n).length=n:=by rw [dk]; omega
    have hev:=Evol.push h (.cells 1 ((dl.take n).map fun b=>.int .u8 b.toNat));have hgo:∀ a' w',At E lo nt μ0 w0 ds (a8 o.dst (.val (.slice (some (h.size,0)) n none)) s) (h.push (.cells 1 ((dl.take n).map fun b=>.int .u8 b.toNat))) a' w'→next a' w':=hn _ hbl hev
    rcases d2 with d2 | ⟨rfl,d2⟩
    · rw [d2,Oper.uponIn_value]
      refine hgo _ _ ⟨μ',ν',?_,d4,?_,by rw [mz]; exact k4,by rw [kv,d1]; exact k5,bz k6 d3.size⟩
      · exact k1.trans d3 hev.wmin
      · rw [ia] at d5 ⊢
        exact d5.congr fun t=>iq _ _ _ _
    · rw [d2] at hrun
      cases hrun
  · exfalso
    split at hcc;case h_2=>cases hcc
    cases hcc
  · exfalso
    repeat' split at hcc
    all_goals first
      | (cases hcc; done)
      | (rw [ae] at hcc; obtain ⟨_,_,hcc⟩:=hcc; cases hcc)
  · cases hcc
theorem opD_sound (hT:Agrees E T) (hm:E.P.follows .mixedOrders=true) {loc:Bool} {o:Oper} {o':AOper} {r:List AOper} {K:Slots→Heap→Prop} (hop:ka E nt ops loc o=some o') (hev:OpsD E T K (o' :: r) s h)
    (hat:At E lo nt μ0 w0 ds s h a w) {next:Act→World→Prop} (hn:∀ s1 h1,OpsD E T K r s1 h1→Evol h h1→∀ a' w',At E lo nt μ0 w0 ds s1 h1 a' w'→next a' w') :
    if Region.wanted o (yielded ops a.tmps) then o.wpIn (F0 none) 0 E.P a w next Q else next (a.put o.dst Go.undef) w:=by
  cases hev with
  | op e k =>
    obtain ⟨n,e⟩:=oo T e;exact ou (ng hT hm n) (lf T n) hT.gid hop e hat (hn _ _ k (ll (lf T n) e))
  | call h1 h2 h3 h4 h5=>exact run_soundD hT.gid hop h2 h1 h3 h4 hat fun v h' hR=>hn _ _ (h5 v h' hR)
  | callv h1 h2 h3 h4 h5 h6=>exact run_soundV hT.gid hop h2 h1 h3 h4 h5 hat fun v h' hR=>hn _ _ (h6 v h' hR)
  | noZero h1 h2 h3 h4 h5=>exact run_noZero hop h2 h1 h3 h4 hat fun bs hb=>hn _ _ (h5 bs hb)
theorem zad (hT:Agrees E T) (hm:E.P.follows .mixedOrders=true) {locs:List Nat} {K:Slots→Heap→Prop} {h0:Heap} (hn:∀ s' h',K s' h'→Evol h0 h'→∀ a' w',At E lo nt μ0 w0 ds s' h' a' w'→Q .normal a' w'):∀ (l:List Oper) (i:Nat) (aZ:List AOper) (s:Slots) (h:Heap) (a:Act) (w:World),
    ops.toList.drop i=l→ke E nt ops locs i l=some aZ→OpsD E T K aZ s h→Evol h0 h→At E lo nt μ0 w0 ds s h a w→wpOpsIn (F0 none) 0 E.P ops Q (List.range' i l.length) a w
  | [],i,aZ,s,h,a,w,_,hcs,hev,h0,hat=>by
    simp only [ke] at hcs; cases hcs;cases hev with
    | done k=>exact hn _ _ k h0 _ _ hat
  | o :: l,i,aZ,s,h,a,w,hd,hcs,hev,h0,hat=>by
    simp only [ke] at hcs;split at hcs;case h_2=>cases hcs
    rename_i o' aZ' ho has;cases hcs
    have hi:ops[i]? = some o:=by have:=congrArg (fun l=>l[0]?) hd;simpa using this
    have hd':ops.toList.drop (i+1)=l:=by have:=congrArg List.tail hd;simpa using this
    simp only [b8,List.range'_succ,wpOpsIn,hi];have:=opD_sound (Q:=Q) hT hm ho hev hat fun s1 h1 k e a' w' hat'=>zad hT hm hn l (i+1) aZ' s1 h1 a' w' hd' has k (h0.trans e) hat'
    split
    · rename_i hw; rw [if_pos hw] at this; exact this
    · rename_i hw; rw [if_neg hw] at this; exact ⟨fun _ _=>trivial,this⟩
theorem zae (hT:Agrees E T) (hm:E.P.follows .mixedOrders=true) {locs:List Nat} {aZ:List AOper} (has:ke E nt ops locs 0 ops.toList=some aZ) (hb:edgesBack ops=true) {K:Slots→Heap→Prop} {h0:Heap} :
    ∀ (n p:Nat) (s:Slots) (h:Heap) (listed:Array Bool) (a:Act) (w:World),p+n≤aZ.length→(∀ x,x≤n→p+x < aZ.length→waits (befs ops.toList []) (p+x)=true) →
    OpsD E T K ((aZ.drop p).take n) s h→Evol h0 h→Exact ops listed p→At E lo nt μ0 w0 ds s h a w →
    (∀ s1 h1,K s1 h1→Evol h0 h1→∀ listed' a' w',Exact ops listed' (p+n)→At E lo nt μ0 w0 ds s1 h1 a' w'→wpAnyIn (F0 none) 0 E.P .any ops Q (ops.size - (p+n)) listed' a' w')→wpAnyIn (F0 none) 0 E.P .any ops Q (ops.size - p) listed a w
  | 0,p,s,h,listed,a,w,_,_,hev,h0,hex,hat,hk=>by
    rw [List.take_zero] at hev;cases hev with
    | done k=>exact hk _ _ k h0 listed a w hex hat
  | n+1,p,s,h,listed,a,w,hpn,hw,hev,h0,hex,hat,hk=>by
    obtain ⟨q1,q2⟩:=jd _ _ _ has;have hp:p < ops.size:=by rw [q1] at hpn; simp at hpn; omega
    have hop:ops[p]? = some ops[p]:=by simp [hp]
    obtain ⟨o',ho',hco⟩:=q2 p ops[p] (by simp [hp])
    have hdrop:aZ.drop p=o' :: aZ.drop (p+1):=by have hpl:=ah ho';rw [nd hpl];congr 1;rw [aq hpl] at ho';exact cz ho'
    rw [hdrop,List.take_succ_cons] at hev;have hchain:=l9 (ops:=ops) ops.toList [] (by simp) (fun k i hk=>by simp at hk);have hblen:=jk ops.toList [];have hsz:ops.size - p=(ops.size - (p+1))+1:=by omega
    rw [hsz];refine ⟨fun hr=>?_,fun i hi=>?_⟩
    · have h3:=o0 hb hex.1 hr p hp
      rw [hex.2 p hp] at h3;simp at h3
    · obtain ⟨oi,k1,k2,k3⟩:=ml hex.1 hi
      have his:i < ops.size:=ah (l:=ops.toList) (by simpa using k1)
      have hip:p≤i:=by have:=hex.2 i his;rw [k2] at this;simpa using this
      have hieq:p=i:=by
        rcases bc p i with h4 | h4
        · exfalso
          have hbit:=rq (hw 1 (by omega) (by rw [q1]; simp; omega)) (j:=i) (i:=p) (by rw [hblen]; simpa using his) (by omega) (by omega);have hl:=ig (hex.down hb) (hchain _ _ hbit) fun o e ho he hbb=>by rw [k1] at ho; cases ho; exact k3 e he hbb
          rw [hex.2 p hp] at hl;simp at hl
        · omega
      subst hieq;rw [hop] at k1; cases k1;refine uy hop (opD_sound hT hm hco hev hat fun s1 h1 k e a' w' hat'=>?_);have e1:p+1+n=p+(n+1):=by omega
      refine zae hT hm has hb n (p+1) s1 h1 _ a' w' (by omega) (fun x hx hl=>?_) k (h0.trans e) hex.next hat' ?_
      · have:=hw (x+1) (by omega) (by omega)
        rwa [show p+1+x=p+(x+1) by omega]
      · rw [e1]; exact hk
end
theorem zaf {nt:Nat} {hint:Hint} {code:Code} {gs:List Seg} (h:eo E nt false hint code=some (.region gs)):∃ segs locs id ops draw,code = .region id ops draw∧cRegion E nt segs locs ops draw=some gs:=by
  cases hint with
  | reg s l =>
    cases code <;> simp only [eo,ae,reduceCtorEq] at h
    obtain ⟨_,h1,h⟩:=h; cases h; exact ⟨_,_,_,_,_,rfl,h1⟩
  | next=>obtain ⟨d,y,r,e⟩:=qg h; cases e
  | live l a=>simp only [eo,ae] at h; obtain ⟨_,_,h⟩:=h; cases h
  | after a l=>simp only [eo,ae] at h; obtain ⟨_,_,h⟩:=h; cases h
  | stuck=>simp only [eo] at h; cases h
  | leaf=>cases code <;> simp only [eo] at h <;> cases h
  | seq a b =>
    cases code <;> simp only [eo,reduceCtorEq] at h
    split at h <;> cases h
  | cond a b =>
    cases code <;> simp only [eo,reduceCtorEq] at h
    split at h <;> cases h
  | block a=>cases code <;> simp only [eo,ae,reduceCtorEq] at h; obtain ⟨_,_,h⟩:=h; cases h
  | loop a=>cases code <;> simp only [eo,ae,reduceCtorEq] at h; obtain ⟨_,_,h⟩:=h; cases h
  | rangeFunc g c a b =>
    cases code <;> simp only [eo,reduceCtorEq] at h
    split at h
    · split at h <;> cases h
    · cases h
theorem CodeD.region (hT:Agrees E T) (hm:E.P.follows .mixedOrders=true) {l:List AOper} {st:St} {Q:AExit→St→Prop} (hl:OpsD E T (fun s h=>Q .normal ⟨s,h⟩) l st.s st.h):CodeD E (.region [⟨false,[],l⟩]) st Q:=by
  intro nt hint code hcc hrd lo μ0 w0 ds a w Qm hat hn;obtain ⟨segs,locs,id,ops,draw,rfl,hcr⟩:=zaf hcc;unfold cRegion at hcr;split at hcr;case h_2=>cases hcr
  rename_i aZ has;split at hcr
  · rename_i hd
    subst hd;split at hcr;case isFalse=>cases hcr
    rename_i hh;simp only [aw] at hh;apply wpIn_region_any hm
    have hat':At E lo nt μ0 w0 ds st.s st.h a { w with drawn:=w.drawn+1 }:=by obtain ⟨μ,ν,k1,k2,k3,k4,k5,k6⟩:=hat;exact ⟨μ,ν,k1.heap rfl rfl rfl rfl,k2.same rfl rfl rfl,k3.heap rfl,k4,k5,k6⟩
    obtain ⟨q1,_⟩:=jd _ _ _ has;simp only [dx] at q1;cases segs with
    | nil =>
      unfold splitSegs at hcr;split at hcr
      · cases hcr
      · cases hcr
      · rename_i e _; cases e
    | cons x r =>
      obtain ⟨q,n⟩:=x;simp only [splitSegs] at hcr;split at hcr;case isFalse=>cases hcr
      rw [ae] at hcr;obtain ⟨gs',hsp,he⟩:=hcr;injection he with he1 he2;injection he1 with e1 e2 e3;subst e1;subst he2;cases r with
      | cons x r =>
        obtain ⟨q',n'⟩:=x;simp only [splitSegs] at hsp;split at hsp
        · rw [ae] at hsp
          obtain ⟨_,_,he⟩:=hsp;cases he
        · cases hsp
      | nil =>
        have hok:=hh.2;simp only [segsOk,aw,decide_eq_true_eq,beq_iff_eq] at hok;obtain ⟨⟨a2,a3⟩,a5⟩:=hok;refine zae (h0:=st.h) hT hm has hh.1 n 0 st.s st.h _ a _ (by omega) (fun x hx hlt=>?_) (by simpa [e3] using hl) (Evol.refl _) ⟨by simp,fun i hi=>by simp [hi]⟩ hat' fun s1 h1 k e listed' a' w' hex' hat''=>?_
        · rw [ai] at a3
          exact a3 x (ce.2 (by omega))
        · have hp:0+n=ops.size:=by omega
          rw [hp,nu];rw [hp] at hex';refine ⟨?_,hn _ _ k e _ _ hat''⟩;apply List.eq_nil_iff_forall_not_mem.2;intro i hi;obtain ⟨o,k1,k2,_⟩:=ml hex'.1 hi;have his:i < ops.size:=ah (l:=ops.toList) (by simpa using k1);rw [hex'.2 i his] at k2;simp [his] at k2
  · rename_i hd
    have:draw=false:=by simpa using hd
    subst this;cases hcr;apply wpIn_region;have:=zad (Q:=Qm) (h0:=st.h) hT hm (fun s' h' k e a' w' hat'=>hn .normal ⟨s',h'⟩ k e a' w' hat') ops.toList 0 l st.s st.h a w rfl has hl (Evol.refl _) hat;rw [List.range_eq_range'];simpa using this
def IsCode (E:Env) (g:Nat) (af:AFunc):Prop:=∀ f,E.gid f=some g→∃ fn hint closed,E.P.funcs[f]? = some fn∧ru E closed hint fn=some af∧RndOK E af.body.rounds
theorem CallD.of_code {g:Nat} {af:AFunc} (hF:IsCode E g af) {args:List AVal} {h:Heap} {R:AVal→Heap→Prop} (hl:args.length=af.nargs)
    (hb:CodeD E af.body ⟨enter 0 args,{ h with wmin:=h.size }⟩ fun e st=>∃ v h',funcEnd af h (e,st)=some (v,h')∧R v h'):CallD E g args h R:=by
  intro f hgid μ w args' ha hr;obtain ⟨fn,hint,closed,hf,hcf,hrd⟩:=hF f hgid;unfold ru at hcf;split at hcf;case h_2=>cases hcf
  rename_i c hbody;split at hcf;case h_2=>cases hcf
  rename_i ac rs hac hrs;split at hcf;case isFalse=>cases hcf
  rename_i hsz;cases hcf;simp only at hl;have hal:args'.size=args.length:=by have:=ha.length; simp at this; exact this.symm
  have hat:At E w.heap.size fn.ntmps μ w [] (enter 0 args) { h with wmin:=h.size } { tmps:=args'++Array.replicate (fn.ntmps - args'.size) undef,defers:=[] } w:=by
    refine ⟨μ,⟨fun _=>0,[]⟩,Step.refl _ _ _ _,hr.same rfl rfl rfl,?_,?_,rfl,aj _⟩
    · have hval:∀ (t:Nat) (x:Slot),sget (enter 0 args) t=some x→∃ v,x = .val v∧args[t]? = some v:=fun t x hx=>by rw [ve] at hx;simp at hx;obtain ⟨v,h1,h2⟩:=hx;exact ⟨v,h2.symm,h1⟩
      constructor
      · intro t v hv
        obtain ⟨v1,e,h1⟩:=hval t _ hv;cases e;obtain ⟨v',h2,h3⟩:=ha.get h1;refine ⟨v',?_,h3⟩;have hlt:=ah h1;rw [mt (by omega)];simpa using h2
      · intro t hx; obtain ⟨_,e,_⟩:=hval t _ hx; cases e
      · intro t cs hx; obtain ⟨_,e,_⟩:=hval t _ hx; cases e
      · intro t t' o cs hx; obtain ⟨_,e,_⟩:=hval t _ hx; cases e
      · intro t t' cs cs' _ hx; obtain ⟨_,e,_⟩:=hval t _ hx; cases e
      · intro t cs i m hx; obtain ⟨_,e,_⟩:=hval t _ hx; cases e
      · intro r hr; cases hr
      · intro r hr; cases hr
      · exact ⟨List.nodup_nil,hr.tab.1⟩
    · simp; omega
  refine callsIn_of_wp_marks hf hbody trivial ?_;refine hb fn.ntmps hint c hac hrd.of w.heap.size μ w [] _ w _ hat fun e st' hq hevol a' w' hat'=>?_
  obtain ⟨v,h',he,hR⟩:=hq;have hev2:Evol h h':=ql hevol he
  have key:((resultsL st'.s st'.h rs).map fun vs=>dg h (tupled vs) st'.h)=some (v,h')→LeavesInM (F0 none) 0 E.P fn a'.tmps (fun e w'=>∃ v h',R v h'∧Evol h h'∧Ends E μ w v h' e w') a'.defers .returning w':=by intro h2;rw [ae] at h2;obtain ⟨vs,h2,h3⟩:=h2;obtain ⟨μ1,ν1,k1,k2,k3,k4,k5,k6⟩:=hat';rw [k5,ik];refine qa hrs h2 (fun v' w2 r2 k1' k2'=>?_) ν1.ds ν1.v w' k1 k2 k3;obtain ⟨μ2,s1,s2,s3⟩:=p9 rfl hr k1' k2' r2 hevol;rw [h3] at s1 s2 s3;exact ⟨v,h',hR,hev2,v',μ2,rfl,s1,s2,s3⟩
  cases e with
  | normal=>exact key he
  | ret=>exact key he
  | exit id=>simp [funcEnd] at he
theorem CallD.of_x (hT:Agrees E T) (hm:E.P.follows .mixedOrders=true) {g:Nat} {args:List AVal} {h h':Heap} {v:AVal} {R:AVal→Heap→Prop} (e:xCall T g args h=some (v,h')) (hR:R v h'):CallD E g args h R:=by intro f hf μ w args' ha hr;obtain ⟨n,hn⟩:=(j7 T _ _ _ _).1 e;exact CallsIn.mono (F:=F0 none) (n:=0) ((ng hT hm n).fn g args h v h' hn f hf μ w args' ha hr) fun e w' he=>⟨v,h',hR,lf T n _ _ _ _ _ hn,he⟩
theorem CallD.mono {g:Nat} {args:List AVal} {h:Heap} {R R':AVal→Heap→Prop} (hd:CallD E g args h R) (hR:∀ v h',R v h'→R' v h'):CallD E g args h R' :=
  fun f hf μ w args' ha hr=>CallsIn.mono (F:=F0 none) (n:=0) (hd f hf μ w args' ha hr) fun _ _ ⟨v,h',h1,h2,h3⟩=>⟨v,h',hR v h' h1,h2,h3⟩
theorem LibOK.of_calls {f g:Nat} {fn:Func} {F:List AVal→Heap→Option (AVal × List (Nat × AObj) × List AObj)} (hf:E.gid f=some g) (name:fn.name ≠ "runtime.NumGoroutine") (body:fn.body.isSome=true)
    (run:∀ args h v ps xs,F args h=some (v,ps,xs)→CallD E g args h fun v' h'=>v'=v∧h'=h.puts ps xs):LibOK E f fn F :=
  ⟨name,body,fun args h v ps xs e μ w args' ha hr=>by refine callsIn_wide.1 (CallsIn.mono (F:=F0 none) (n:=0) (run args h v ps xs e f hf μ w args' ha hr) fun e w' ⟨v',h',⟨e1,e2⟩,_,he⟩=>?_);rw [← e1,← e2];exact he⟩
end
end Go.Abs

namespace Go.Abs
def AgreesX (E:Env) (T:Nat→Option AFunc):Prop:=∃ T',(∀ g f,T g=some f→T' g=some f)∧Agrees E T'
section
variable {E:Env} {T:Nat→Option AFunc}
theorem Agrees.x (h:Agrees E T):AgreesX E T:=⟨T,fun _ _ h=>h,h⟩
theorem AgreesX.sub {T0:Nat→Option AFunc} (hs:∀ g f,T0 g=some f→T g=some f) (h:AgreesX E T):AgreesX E T0:=by obtain ⟨T',h1,h2⟩:=h;exact ⟨T',fun g f e=>h1 g f (hs g f e),h2⟩
theorem xCall_le {T':Nat→Option AFunc} (hs:∀ g f,T g=some f→T' g=some f):CallLe (xCall T) (xCall T'):=fun _ _ _ _ hr=>fe hs hr
theorem OpsD.up {T':Nat→Option AFunc} (hs:∀ g f,T g=some f→T' g=some f) {K:Slots→Heap→Prop} {l:List AOper} {s:Slots} {h:Heap} (hl:OpsD E T K l s h):OpsD E T' K l s h:=by
 induction hl with
 | done k=>exact .done k
 | op e _ ih=>exact .op (ki (xCall_le hs) _ _ _ _ e) ih
 | call h1 h2 h3 h4 _ ih=>exact .call h1 h2 h3 h4 ih
 | callv h1 h2 h3 h4 h5 _ ih=>exact .callv h1 h2 h3 h4 h5 ih
 | noZero h1 h2 h3 h4 _ ih=>exact .noZero h1 h2 h3 h4 ih
theorem CodeD.regionX (hT:AgreesX E T) (hm:E.P.follows .mixedOrders=true) {l:List AOper} {st:St} {Q:AExit→St→Prop} (hl:OpsD E T (fun s h=>Q .normal ⟨s,h⟩) l st.s st.h):CodeD E (.region [⟨false,[],l⟩]) st Q:=by obtain ⟨T',hs,hT⟩:=hT;exact CodeD.region hT hm (hl.up hs)
theorem CallD.of_xX (hT:AgreesX E T) (hm:E.P.follows .mixedOrders=true) {g:Nat} {args:List AVal} {h h':Heap} {v:AVal} {R:AVal→Heap→Prop} (e:xCall T g args h=some (v,h')) (hR:R v h'):CallD E g args h R:=by obtain ⟨T',hs,hT⟩:=hT;exact CallD.of_x hT hm (fe hs e) hR
theorem CodeD.of_xX (hT:AgreesX E T) (hm:E.P.follows .mixedOrders=true) {c:ACode} {st st':St} {e:AExit} {Q:AExit→St→Prop} (h:je T c st=some (e,st')) (hq:Q e st'):CodeD E c st Q:=by obtain ⟨T',hs,hT⟩:=hT;obtain ⟨n,hn⟩:=(dm T _ _ _).1 h;exact CodeD.of_x hT hm ((dm T' _ _ _).2 ⟨n,kj (tl hs n) (aj n) _ _ _ hn⟩) hq
theorem CodeD.of_kX (hT:AgreesX E T) (hm:E.P.follows .mixedOrders=true) {c:ACode} {st:St} {Q:AExit→St→Prop} (h:xK T c st (k:=⟨fun e st=>okIf (Q e st)⟩)=some ()):CodeD E c st Q:=by
 unfold xK at h;cases hx:je T c st with
 | none=>rw [hx] at h; cases h
 | some p =>
  rw [hx] at h;exact CodeD.of_xX hT hm hx (okIf_iff.1 h)
end
end Go.Abs

namespace Go.Abs
def repF:List AVal→Heap→Option (AVal × List (Nat × AObj) × List AObj)
 | [.slice (some (p,o)) 1 _,.int .i64 n],h=>match h.get p with
  | some (.cells 1 X)=>match X[o]? with
   | some (.int .u8 255)=>if 0 < n∧n≤131072 then some (.slice (some (h.size,0)) n.toNat (some n.toNat),[],[.cells 1 (List.replicate n.toNat (.int .u8 255))]) else none
   | _=>none
  | _=>none
 | _,_=>none
end Go.Abs

namespace Go.Abs.AbsBlo
open Go.Abs.Short
-- base: AbsBlb
def code88:AFunc:=⟨false,false,2,8,[.tmp 4],
 S (R [0,1] [o 4 (.val F)])
 (S (R [4] [v 5 0,v 6 1,o 7 (.callg 140 [t 5,t 6]),v 4 7])
 (Z [4])),none⟩
def code140:AFunc:=⟨false,false,2,18,[.tmp 4],
 S (R [0,1] [o 4 (.val F)])
 (S (R [4] [v 5 0,o 6 (.len .str (t 5)),v 7 1,o 8 (.len .str (t 7)),o 9 (Bt .geq 6 8),v 10 9,g 11 10 true (Vl 0),g 12 10 true (Vl 1),g 13 10 true (.len .str (t 12)),g 14 10 true (.slice .str (t 11) none (some (t 13)) none),g 15 10 true (Vl 1),g 16 10 true (Bt .eql 14 15),o 17 (.pick (t 10) (t 16) F),v 4 17])
 (Z [4])),none⟩
def code142L0:ACode :=
 .live [0,1,7,8] (S (R [0,1,7,8,9] [o 9 (Bt .lss 8 7)])
 (S (.after (.cond (t 9) (.skip) (.live [] (.exit 0))) [0,1,7,8])
 (S (.after (.block 1 (S (R [0,1,5,7,8] [v 10 8,v 5 10])
 (S (R [0,1,5,7,8,16] [v 11 1,v 12 0,v 13 5,o 14 (.iaddr 1 (t 12) (t 13)),o 15 (Lq 14),o 16 (.call (t 11) [t 15])])
 (.after (.cond (t 16) (S (R [4] [v 17 5,v 4 17])
 (Z [4])) (.skip)) [0,1,7,8])))) [0,1,7,8])
 (R [0,1,7,8] [o 18 (Bn .add 8 1),v 8 18]))))
def code142:AFunc:=⟨false,false,2,19,[.tmp 4],
 S (R [0,1] [o 4 (.val (n 0))])
 (S (S (R [0,1,7,8] [v 6 0,o 7 (Sl 6),o 8 (.val (n 0))])
 (.after (.block 0 (.loop code142L0)) []))
 (S (R [4] [o 4 (.val (.const (.int .i64 (-1))))])
 (Z [4]))),none⟩
def code480:AFunc:=⟨false,false,2,17,[.tmp 4],
 S (R [0,3] [o 3 (.box (t 1)),o 4 (.val (.const (.slice none 0 (some 0))))])
 (S (S (R [0,3,7] [v 6 0,o 7 (.eqnil .ptr false (t 6) (.const (.ptr none)))])
 (.after (.cond (t 7) (S (R [4] [o 4 (.val (.const (.slice none 0 (some 0))))])
 (Z [4])) (.skip)) [0,3]))
 (S (R [3,5] [v 8 0,o 9 (.nilcheck (t 8)),o 10 (Fa 9 5),o 11 (Lq 10),o 12 (.callg 496 [t 11]),o 13 (.callg 497 [t 12]),v 5 13])
 (S (R [4] [v 14 5,o 15 (.mkfunc 494 [] [t 3]),o 16 (.callg 495 [t 14,t 15]),v 4 16])
 (Z [4])))),none⟩
def code494:AFunc:=⟨false,false,2,8,[.tmp 3],
 S (R [0,1] [o 3 (.val F)])
 (S (R [3] [v 4 0,o 5 (Lq 1),o 6 (.callg 88 [t 4,t 5]),o 7 (.un .not (t 6)),v 3 7])
 (Z [3])),none⟩
def code495L0:ACode :=
 .live [0,1,5,6] (S (S (R [0,1,5,6,19] [v 16 6,v 17 0,o 18 (Sl 17),o 19 (Bt .lss 16 18)])
 (.after (.cond (t 19) (.skip) (.live [0,5] (.exit 0))) [0,1,5,6]))
 (S (.after (.block 1 (S (R [0,1,5,6,7] [v 22 0,v 23 6,o 24 (.iaddr 1 (t 22) (t 23)),o 25 (Lq 24),v 7 25])
 (S (R [0,1,5,6,7,29] [v 26 1,v 27 7,o 28 (.call (t 26) [t 27]),o 29 (.un .not (t 28))])
 (.after (.cond (t 29) (S (R [0,1,5,6] [v 30 0,v 31 5,v 32 7,o 33 (.iaddr 1 (t 30) (t 31)),u (.store 1 (t 33) (t 32))])
 (R [0,1,5,6] [v 34 5,o 35 (Bn .add 34 1),v 5 35])) (.skip)) [0,1,5,6])))) [0,1,5,6])
 (R [0,1,5,6] [v 20 6,o 21 (Bn .add 20 1),v 6 21])))
def code495:AFunc:=⟨false,false,2,42,[.tmp 4],
 S (R [0,1] [o 4 (.val (.const (.slice none 0 (some 0))))])
 (S (R [0,1,5] [v 8 0,v 9 1,o 10 (.callg 142 [t 8,t 9]),v 5 10])
 (S (S (R [0,1,5,12] [v 11 5,o 12 (.bin .eql (t 11) (.const (.int .i64 (-1))))])
 (.after (.cond (t 12) (S (R [4] [v 13 0,v 4 13])
 (Z [4])) (.skip)) [0,1,5]))
 (S (S (R [0,1,5,6] [v 14 5,o 15 (Bn .add 14 1),v 6 15])
 (.after (.block 0 (.loop code495L0)) [0,5]))
 (S (R [0,5] [v 36 0,v 37 5,o 38 (.slice (.sl 1) (t 36) (some (t 37)) none none),u (.ext (.clear 1 [.str []]) [t 38])])
 (S (R [4] [v 39 0,v 40 5,o 41 (.slice (.sl 1) (t 39) none (some (t 40)) none),v 4 41])
 (Z [4])))))),none⟩
def code496:AFunc:=⟨false,false,1,4,[.tmp 2],
 S (R [1] [o 1 (.box (t 0)),o 2 (.val (.const (.nilFunc)))])
 (S (R [2] [o 3 (.mkfunc 507 [] [t 1]),v 2 3])
 (Z [2])),none⟩
def code497:AFunc:=⟨false,false,1,9,[.tmp 2],
 S (R [0] [o 2 (.val (.const (.slice none 0 (some 0))))])
 (S (R [3] [v 4 0,o 5 (.callg 506 [t 4]),v 3 5])
 (S (R [3] [v 6 3,o 7 (.callg 505 [t 6])])
 (S (R [2] [v 8 3,v 2 8])
 (Z [2])))),none⟩
def code505:AFunc:=⟨false,false,1,11,[],
 S (R [0,2] [v 3 0,o 4 (Sl 3),v 2 4])
 (R [] [v 5 0,v 6 2,v 7 2,o 8 (.conv (.int .u64) (t 7)),o 9 (.callg 166 [t 8]),o 10 (.callg 513 [t 5,n 0,t 6,t 9])]),none⟩
def code506:AFunc:=⟨false,false,1,5,[.tmp 2],
 S (R [0] [o 2 (.val (.const (.slice none 0 (some 0))))])
 (S (R [2] [v 3 0,o 4 (.callg 512 [.const (.slice none 0 (some 0)),t 3]),v 2 4])
 (Z [2])),none⟩
def code507L0:ACode :=
 .live [0,5] (S (.after (S (.next (some 6) (t 5)) (.region [⟨false,[],[o 7 (Xt 6 0)]⟩])) [0,5,7])
 (S (.after (.cond (t 7) (.skip) (.live [] (.exit 0))) [0,5])
 (.after (.block 1 (S (R [0,3,5] [o 8 (.ext .entry [t 5]),o 9 (Xt 8 0),v 3 9])
 (S (R [0,5,13] [v 10 0,v 11 3,o 12 (.call (t 10) [t 11]),o 13 (.un .not (t 12))])
 (.after (.cond (t 13) (Z []) (.skip)) [0,5])))) [0,5])))
def code507:AFunc:=⟨false,true,2,14,[],
 S (R [0,5] [o 4 (Lq 1),o 5 (.ext .mkiter [t 4])])
 (.after (.block 0 (.loop code507L0)) []),none⟩
def rcode522a:ACode :=
 R [2,5] [v 5 7]
def rcode522b:ACode :=
 .after (.block 1 (R [] [o 8 (Lq 2),v 9 5,o 10 (.mkslice 1 1 [.str []] [(0,1,t 9)]),o 11 (.append 1 16 (t 8) (t 10)),u (.store 1 (t 2) (t 11))])) []
def round522:ARound:=⟨[7],rcode522a,rcode522b⟩
def code522:AFunc:=⟨false,false,0,0,[],.skip,some (.round round522)⟩
def code512:AFunc:=⟨false,false,2,13,[.tmp 4],
 S (R [1,2] [o 2 (.box (t 0)),o 4 (.val (.const (.slice none 0 (some 0))))])
 (S (S (R [2,6] [v 6 1])
 (.after (.block 0 (.after (.rangeFunc (t 6) 522 [2] [7] rcode522a rcode522b) [2])) [2]))
 (S (R [4] [o 12 (Lq 2),v 4 12])
 (Z [4]))),none⟩
def code513L0:ACode :=
 .live [0,1,2,3,8,9] (.after (.block 1 (S (R [0,1,2,3,8,9,10] [v 19 2,v 20 1,o 21 (Bt .sub 19 20),v 10 21])
 (S (S (R [0,1,2,3,8,9,10,23] [v 22 10,o 23 (Bn .leq 22 12)])
 (.after (.cond (t 23) (S (R [] [v 24 0,v 25 1,v 26 2,o 27 (.callg 531 [t 24,t 25,t 26])])
 (Z [])) (.skip)) [0,1,2,3,8,9,10]))
 (S (S (R [0,1,2,3,8,9,10,29] [v 28 3,o 29 (Bn .eql 28 0)])
 (.after (.cond (t 29) (S (R [] [v 30 0,v 31 1,v 32 2,o 33 (.nextStr F)])
 (Z [])) (.skip)) [0,1,2,3,8,9,10]))
 (S (S (R [0,1,2,3,8,9,10,35] [v 34 8,o 35 (.un .not (t 34))])
 (.after (.cond (t 35) (S (R [0,1,2,3,8,9,10] [v 36 0,v 37 1,v 38 2,o 39 (.nextStr F)])
 (R [0,1,2,3,8,9,10] [v 40 3,o 41 (Bn .sub 40 1),v 3 41])) (.skip)) [0,1,2,3,8,9,10]))
 (S (R [0,1,2,3,8,9,10,11,12] [v 43 0,v 44 1,v 45 2,o 46 (.nextStr F),v 42 46,o 47 (Xt 42 0),o 48 (Xt 42 1),v 11 47,v 12 48])
 (S (S (R [0,1,2,3,8,9,10,11,12,50] [v 49 12,o 50 (Bn .eql 49 2)])
 (.after (.cond (t 50) (S (R [0,1,2,3,8,9,10,11] [v 51 0,v 52 1,v 53 2,o 54 (.nextStr F)])
 (S (R [0,1,2,3,8,9,10,11] [v 55 2,o 56 (Bn .sub 55 1),v 57 11,v 58 1,o 59 (Bt .sub 57 58),o 60 (Bt .sub 56 59),v 11 60])
 (R [0,1,2,3,8,9,10,11,12] [o 12 (.val (n 1))]))) (.skip)) [0,1,2,3,8,9,10,11,12]))
 (S (S (R [0,1,2,3,8,9,10,11,68] [v 61 8,v 62 61,g 63 62 true (Vl 9),o 64 (.pick (t 62) (t 63) F),v 65 64,g 66 65 true (Vl 12),g 67 65 true (Bn .eql 66 1),o 68 (.pick (t 65) (t 67) F)])
 (.after (.cond (t 68) (S (R [0,1,2,3,8,9,10,11,72] [v 69 0,v 70 1,v 71 2,o 72 (.nextStr F)])
 (.after (.cond (t 72) (Z []) (.skip)) [0,1,2,3,8,9,10,11])) (.skip)) [0,1,2,3,8,9,10,11]))
 (S (S (.after (.region [⟨false,[],[v 73 1,o 74 (Bn .gtr 73 0),v 75 74]⟩,⟨true,[],[g 76 75 true (Vl 0),g 77 75 true (Vl 1),g 78 75 true (Bn .sub 77 1),g 79 75 true (.iaddr 1 (t 76) (t 78)),g 80 75 true (Lq 79),g 81 75 true (Vl 0),g 82 75 true (Vl 11),g 83 75 true (.iaddr 1 (t 81) (t 82)),g 84 75 true (Lq 83)]⟩,⟨false,[],[g 85 75 true (.callg 525 [t 80,t 84]),g 86 75 true (.un .not (t 85)),o 87 (.pick (t 75) (t 86) F)]⟩]) [0,1,2,3,8,9,10,11,87])
 (.after (.cond (t 87) (S (R [0,2,3,8,9,13] [v 88 0,v 89 1,v 90 2,v 91 11,o 92 (.nextStr F),v 13 92])
 (S (R [0,1,2,3,8,9] [v 93 13,v 1 93])
 (.live [0,1,2,3,8,9] (.exit 1)))) (.skip)) [0,1,2,3,10,11]))
 (S (R [0,1,2,3,10,14,15] [v 95 0,v 96 1,v 97 2,v 98 11,o 99 (.nextStr F),v 94 99,o 100 (Xt 94 0),o 101 (Xt 94 1),v 14 100,v 15 101])
 (S (R [0,1,2,3,9,10,14] [v 102 15,v 9 102])
 (S (R [0,1,2,3,9,10,14,16,17] [v 103 14,v 104 1,o 105 (Bt .sub 103 104),v 106 2,v 107 14,o 108 (Bt .sub 106 107),v 16 105,v 17 108])
 (S (R [0,1,2,3,9,14,16,17,18] [v 109 10,o 110 (Bn .quo 109 8),v 18 110])
 (S (R [0,1,2,3,9,14,16,17,18,113] [v 111 16,v 112 17,o 113 (Bt .lss 111 112)])
 (.after (.cond (t 113) (S (R [0,1,2,3,8,9,14] [v 114 16,v 115 18,o 116 (Bt .geq 114 115),v 8 116])
 (S (R [0,2,3,8,9,14] [v 117 0,v 118 1,v 119 14,v 120 3,o 121 (.callg 513 [t 117,t 118,t 119,t 120])])
 (R [0,1,2,3,8,9] [v 122 14,o 123 (Bn .add 122 1),v 1 123]))) (S (R [0,1,2,3,8,9,14] [v 124 17,v 125 18,o 126 (Bt .geq 124 125),v 8 126])
 (S (R [0,1,3,8,9,14] [v 127 0,v 128 14,o 129 (Bn .add 128 1),v 130 2,v 131 3,o 132 (.callg 513 [t 127,t 129,t 130,t 131])])
 (R [0,1,2,3,8,9] [v 133 14,v 2 133])))) [0,1,2,3,8,9]))))))))))))))) [0,1,2,3,8,9])
def code513:AFunc:=⟨false,false,4,134,[],
 S (R [0,1,2,3,8] [o 8 (.val Y)])
 (S (R [0,1,2,3,8,9] [o 9 (.val Y)])
 (.after (.block 0 (.loop code513L0)) [])),none⟩
def code525:AFunc:=⟨false,false,2,17,[.tmp 4],
 S (R [0,1] [o 4 (.val F)])
 (S (R [4] [v 5 0,o 6 (.callg 542 [t 5]),v 7 6,g 8 7 true (Vl 1),g 9 7 true (.callg 542 [t 8]),g 10 7 true (.un .not (t 9)),o 11 (.pick (t 7) (t 10) F),v 12 11,g 13 12 false (Vl 0),g 14 12 false (Vl 1),g 15 12 false (Bt .lss 13 14),o 16 (.pick (t 12) Y (t 15)),v 4 16])
 (Z [4])),none⟩
def code531L0:ACode :=
 .live [0,1,2,6,7] (S (S (.after (.region [⟨true,[],[v 16 7,v 17 1]⟩,⟨false,[],[o 18 (Bt .gtr 16 17),v 19 18]⟩,⟨true,[],[g 20 19 true (Vl 0),g 21 19 true (Vl 7),g 22 19 true (.iaddr 1 (t 20) (t 21)),g 23 19 true (Lq 22),g 24 19 true (Vl 0),g 25 19 true (Vl 7),g 26 19 true (Bn .sub 25 1),g 27 19 true (.iaddr 1 (t 24) (t 26)),g 28 19 true (Lq 27)]⟩,⟨false,[],[g 29 19 true (.callg 525 [t 23,t 28]),o 30 (.pick (t 19) (t 29) F)]⟩]) [0,1,2,6,7,30])
 (.after (.cond (t 30) (.skip) (.live [0,1,2,6] (.exit 2))) [0,1,2,6,7]))
 (S (.after (.block 3 (.after (.region [⟨true,[0,0,0,0,8,0,0,64,224,480,0,0,3072,7168,16355,32739],[v 33 0,v 34 7,v 35 0,v 36 7,o 37 (Bn .sub 36 1),v 38 0,v 39 7,o 40 (Bn .sub 39 1),o 41 (.iaddr 1 (t 38) (t 40)),o 42 (Lq 41),v 43 0,v 44 7,o 45 (.iaddr 1 (t 43) (t 44)),o 46 (Lq 45),o 47 (.iaddr 1 (t 33) (t 34)),u (.ext (.hstore 1) [t 47,t 42])]⟩,⟨false,[],[o 48 (.iaddr 1 (t 35) (t 37)),u (.store 1 (t 48) (t 46))]⟩]) [0,1,2,6,7])) [0,1,2,6,7])
 (R [0,1,2,6,7] [v 31 7,o 32 (Bn .sub 31 1),v 7 32])))
def code531L1:ACode :=
 .live [0,1,2,6] (S (S (R [0,1,2,6,12] [v 10 6,v 11 2,o 12 (Bt .lss 10 11)])
 (.after (.cond (t 12) (.skip) (.live [] (.exit 0))) [0,1,2,6]))
 (S (.after (.block 1 (S (R [0,1,2,6,7] [v 15 6,v 7 15])
 (.after (.block 2 (.loop code531L0)) [0,1,2,6]))) [0,1,2,6])
 (R [0,1,2,6] [v 13 6,o 14 (Bn .add 13 1),v 6 14])))
def code531:AFunc:=⟨false,false,3,49,[],
 S (R [0,1,2,6] [v 8 1,o 9 (Bn .add 8 1),v 6 9])
 (.after (.block 0 (.loop code531L1)) []),none⟩
def code542:AFunc:=⟨false,false,1,6,[.tmp 2],
 S (R [0] [o 2 (.val F)])
 (S (R [2] [v 3 0,v 4 0,o 5 (Bt .neq 3 4),v 2 5])
 (Z [2])),none⟩
def code549:AFunc:=⟨false,false,2,42,[.tmp 4],
 S (R [0,1] [o 4 (.val (n 0))])
 (S (S (R [0,1,9] [v 8 0,o 9 (.callg 561 [t 8])])
 (.after (.cond (t 9) (S (R [4] [o 4 (.val (n 5))])
 (Z [4])) (.skip)) [0,1]))
 (S (R [0,5,6] [v 11 1,o 12 (.callg 581 [t 11]),v 10 12,o 13 (Xt 10 0),o 14 (Xt 10 1),v 5 13,v 6 14])
 (S (.after (.block 0 (S (R [0,5,6,15] [v 16 6,o 17 (Bn .neq 16 0),v 15 17])
 (.after (.cond (t 15) (S (R [4] [v 18 6,v 4 18])
 (Z [4])) (S (.after (.region [⟨true,[],[v 20 5,o 21 (.callg 579 [t 20]),v 22 0,o 23 (.nilcheck (t 22)),o 24 (Fa 23 1),o 25 (Fa 24 1),o 26 (Lq 25),o 27 (Bn .sub 26 12),o 28 (Bn .quo 27 2)]⟩,⟨false,[],[o 29 (Bt .gtr 21 28),v 19 29]⟩]) [0,5,19])
 (.after (.cond (t 19) (S (R [4] [o 4 (.val (n 9))])
 (Z [4])) (.skip)) [0,5]))) [0,5]))) [0,5])
 (S (S (R [0,5,7] [v 30 0,v 31 5,o 32 (.callg 579 [t 31]),o 33 (.callg 580 [t 30,t 32]),v 7 33])
 (S (R [0,5,7,35] [v 34 7,o 35 (Bn .neq 34 0)])
 (.after (.cond (t 35) (S (R [4] [v 36 7,v 4 36])
 (Z [4])) (.skip)) [0,5])))
 (S (R [4] [v 37 0,v 38 0,v 39 5,o 40 (.callg 577 [t 38,t 39]),o 41 (.callg 578 [t 37,t 40]),v 4 41])
 (Z [4])))))),none⟩
def code555L0:ACode :=
 .live [0,2,4,22,23] (S (R [0,2,4,22,23,24] [o 24 (Bt .lss 23 22)])
 (S (.after (.cond (t 24) (.skip) (.live [2,4] (.exit 0))) [0,2,4,22,23])
 (S (.after (.block 1 (S (R [0,2,4,5,22,23] [v 25 23,v 5 25])
 (S (R [0,2,4,5,6,7,22,23] [v 27 0,v 28 5,o 29 (.callg 564 [t 27,t 28]),v 26 29,o 30 (Xt 26 0),o 31 (Xt 26 1),o 6 (.lalloc [.int .i64 0,.int .u32 0,.int .i64 0]),u (.store 3 (t 6) (t 30)),v 7 31])
 (S (S (R [0,2,4,5,6,7,22,23,33] [v 32 7,o 33 (Bn .neq 32 0)])
 (.after (.cond (t 33) (S (R [2,3] [v 34 7,u (.store 1 (t 2) (.const (.ptr none))),v 3 34])
 (Z [2,3])) (.skip)) [0,2,4,5,6,22,23]))
 (S (.after (.region [⟨true,[0,0,2,6,14,0,32,126],[o 35 (Lq 2),o 36 (Lq 2),o 37 (.nilcheck (t 36)),o 38 (Fa 37 4),o 39 (Lq 38),o 40 (.load (some 3) (t 6)),o 41 (.mkslice 3 1 [.int .i64 0,.int .u32 0,.int .i64 0] [(0,3,t 40)]),o 42 (.append 3 24 (t 39) (t 41))]⟩,⟨false,[],[o 43 (.nilcheck (t 35)),o 44 (Fa 43 4),u (.store 1 (t 44) (t 42))]⟩]) [0,2,4,5,6,22,23])
 (S (R [0,2,4,5,22,23,47] [o 45 (Fa 6 0),o 46 (Lq 45),o 47 (Bn .eql 46 2)])
 (.after (.cond (t 47) (R [0,2,4,22,23] [v 48 4,v 49 5,o 50 (.mkslice 1 1 [.int .i64 0] [(0,1,t 49)]),o 51 (.append 1 8 (t 48) (t 50)),v 4 51]) (.skip)) [0,2,4,22,23]))))))) [0,2,4,22,23])
 (R [0,2,4,22,23] [o 52 (Bn .add 23 1),v 23 52]))))
def code555:AFunc:=⟨false,false,1,85,[.cell 2 none,.tmp 3],
 S (R [0,2] [o 2 (.alloc 1 [.ptr none]),o 3 (.val (n 0))])
 (S (S (R [0,2,11] [v 10 0,o 11 (.eqnil .ptr false (t 10) (.const (.ptr none)))])
 (.after (.cond (t 11) (S (R [2,3] [u (.store 1 (t 2) (.const (.ptr none))),o 3 (.val (n 1))])
 (Z [2,3])) (.skip)) [0,2]))
 (S (R [0,2] [v 12 0,v 13 0,o 14 (.callg 573 [t 13]),o 15 (.ext .mkmap []),o 16 (.build [.ptr none,.int .i64 0,.int .i64 0,.int .i64 0,.slice none 0 (some 0),.map none,.int .i64 0,.int .i64 0,.int .u32 0,.int .u32 0,.bool false] [(0,1,t 12),(1,3,t 14),(5,1,t 15),(6,1,.const (.int .i64 (-1)))]),o 17 (.box (t 16)),u (.store 1 (t 2) (t 17))])
 (S (R [0,2,4] [o 4 (.val (.const (.slice none 0 (some 0))))])
 (S (S (R [0,2,4,22,23] [o 18 (Lq 2),o 19 (.nilcheck (t 18)),o 20 (Fa 19 1),o 21 (Fa 20 0),o 22 (Lq 21),o 23 (.val (n 0))])
 (.after (.block 0 (.loop code555L0)) [2,4]))
 (S (R [2,4] [v 53 4,o 54 (.mkfunc 571 [] [t 2]),o 55 (.callg 572 [t 53,t 54])])
 (S (S (R [2,4,8] [o 56 (Lq 2),v 57 4,o 58 (.callg 570 [t 56,t 57]),v 8 58])
 (S (R [2,4,8,60] [v 59 8,o 60 (Bn .neq 59 0)])
 (.after (.cond (t 60) (S (R [2,3] [v 61 8,u (.store 1 (t 2) (.const (.ptr none))),v 3 61])
 (Z [2,3])) (.skip)) [2,4])))
 (S (S (.after (.region [⟨true,[],[o 62 (Lq 2),o 63 (.nilcheck (t 62)),o 64 (Fa 63 4),o 65 (Lq 64),o 66 (Lq 2),o 67 (.nilcheck (t 66)),o 68 (Fa 67 1),o 69 (Fa 68 2),o 70 (Lq 69)]⟩,⟨false,[],[o 71 (.callg 0 [t 65,t 70]),o 72 (Bn .eql 71 0),v 73 72,g 74 73 true (Vl 4),g 75 73 true (Sl 74),g 76 73 true (Bn .gtr 75 1),o 77 (.pick (t 73) (t 76) F)]⟩]) [2,4,77])
 (.after (.cond (t 77) (S (R [2,9] [o 78 (Lq 2),v 79 4,o 80 (.nextStr F),v 9 80])
 (S (R [2,9,82] [v 81 9,o 82 (Bn .neq 81 0)])
 (.after (.cond (t 82) (S (R [2,3] [v 83 9,u (.store 1 (t 2) (.const (.ptr none))),v 3 83])
 (Z [2,3])) (.skip)) [2]))) (.skip)) [2]))
 (S (R [2,3] [o 84 (Lq 2),u (.store 1 (t 2) (t 84)),o 3 (.val (n 0))])
 (Z [2,3]))))))))),none⟩
def code556:AFunc:=⟨false,false,1,33,[.tmp 2,.tmp 3],
 S (R [1] [o 1 (.lbox (t 0)),o 2 (.val (.const (.ptr none))),o 3 (.val (n 0))])
 (S (S (R [1,19] [o 4 (Fa 1 0),o 5 (Lq 4),o 6 (.callg 568 [t 5,n 1,n 64]),o 7 (.un .not (t 6)),v 8 7,g 9 8 false (Fa 1 1),g 10 8 false (Lq 9),g 11 8 false (.callg 568 [t 10,n 64,n 65536]),g 12 8 false (.un .not (t 11)),o 13 (.pick (t 8) Y (t 12)),v 14 13,g 15 14 false (Fa 1 2),g 16 14 false (Lq 15),g 17 14 false (.callg 568 [t 16,n 1,n 1048576]),g 18 14 false (.un .not (t 17)),o 19 (.pick (t 14) Y (t 18))])
 (.after (.cond (t 19) (S (R [2,3] [o 2 (.val (.const (.ptr none))),o 3 (.val (n 1))])
 (Z [2,3])) (.skip)) [1]))
 (S (.after (.region [⟨true,[0,0,0,4,0,16,60,126,0,256,768],[o 20 (.load (some 3) (t 1)),o 21 (.mkslice 1 1 [.int .u8 0] [(0,1,.const (.int .u8 255))]),o 22 (Fa 1 0),o 23 (Lq 22),o 24 (Fa 1 1),o 25 (Lq 24),o 26 (Bt .mul 23 25),o 27 (.callg 567 [t 21,t 26]),o 28 (Fa 1 0),o 29 (Lq 28),o 30 (.make 1 8 [.int .i64 0] (t 29) (t 29))]⟩,⟨false,[],[o 31 (.build [.int .i64 0,.int .i64 0,.int .i64 0,.slice none 0 (some 0),.slice none 0 (some 0),.bool false,.int .i64 0,.int .i64 0,.int .u8 0] [(0,3,t 20),(3,1,t 27),(4,1,t 30),(6,1,.const (.int .i64 (-1)))]),o 32 (.box (t 31)),v 2 32,o 3 (.val (n 0))]⟩]) [2,3])
 (Z [2,3]))),none⟩
def code567:AFunc:=⟨false,false,0,0,[],.skip,some (.lib Go.Abs.repF)⟩
def code570L0:ACode :=
 .live [0,18,19,20] (S (R [0,18,19,20,21] [o 21 (Bt .lss 20 19)])
 (S (.after (.cond (t 21) (.skip) (.live [] (.exit 0))) [0,18,19,20])
 (S (.after (.block 1 (S (R [0,6,18,19,20] [o 22 (.iaddr 1 (t 18) (t 20)),o 23 (Lq 22),v 6 23])
 (S (R [0,7,18,19,20] [v 24 0,v 25 6,o 26 (.nextStr F),v 7 26])
 (S (R [0,7,18,19,20,28] [v 27 7,o 28 (Bn .neq 27 0)])
 (.after (.cond (t 28) (S (R [4] [v 29 7,v 4 29])
 (Z [4])) (.skip)) [0,18,19,20]))))) [0,18,19,20])
 (R [0,18,19,20] [o 30 (Bn .add 20 1),v 20 30]))))
def code570:AFunc:=⟨false,false,2,31,[.tmp 4],
 S (R [0,1] [o 4 (.val (n 0))])
 (S (R [0,1] [v 8 0,v 9 0,v 10 0,o 11 (.ext .mkmap []),o 12 (.nilcheck (t 8)),o 13 (Fa 12 5),u (.store 1 (t 13) (t 11)),o 14 (.nilcheck (t 9)),o 15 (Fa 14 6),u (.store 1 (t 15) (.const (.int .i64 (-1)))),o 16 (.nilcheck (t 10)),o 17 (Fa 16 9),u (.store 1 (t 17) (.const (.int .u32 0)))])
 (S (S (R [0,18,19,20] [v 18 1,o 19 (Sl 18),o 20 (.val (n 0))])
 (.after (.block 0 (.loop code570L0)) []))
 (S (R [4] [o 4 (.val (n 0))])
 (Z [4])))),none⟩
def code580L0:ACode :=
 .live [0,1,12,13] (S (R [0,1,12,13,14] [o 14 (Bt .lss 13 12)])
 (S (.after (.cond (t 14) (.skip) (.live [0,1] (.exit 0))) [0,1,12,13])
 (S (.after (.block 1 (S (R [0,1,5,12,13] [v 15 0,o 16 (.mkfunc 599 [t 15] []),v 5 16])
 (S (.after (.block 2 (S (R [0,1,5,12,13,17] [v 18 0,v 19 1,o 20 (.callg 597 [t 18,t 19]),v 17 20])
 (.after (.cond (t 17) (S (R [4] [o 4 (.val (n 0))])
 (Z [4])) (S (.after (.region [⟨true,[],[v 22 0,o 23 (.nilcheck (t 22)),o 24 (Fa 23 4),o 25 (Lq 24),v 26 0,o 27 (.nilcheck (t 26)),o 28 (Fa 27 1),o 29 (Fa 28 2),o 30 (Lq 29)]⟩,⟨false,[],[o 31 (.callg 0 [t 25,t 30]),o 32 (Bn .geq 31 2),v 21 32]⟩]) [0,1,5,12,13,21])
 (.after (.cond (t 21) (R [0,1,5,12,13] [v 33 0,o 34 (.mkfunc 598 [t 33] []),v 5 34]) (.skip)) [0,1,5,12,13]))) [0,1,5,12,13]))) [0,1,5,12,13])
 (S (R [0,1,6,12,13] [v 35 5,o 36 (.call (t 35) []),v 6 36])
 (S (R [0,1,6,12,13,38] [v 37 6,o 38 (Bn .neq 37 0)])
 (.after (.cond (t 38) (S (R [4] [v 39 6,v 4 39])
 (Z [4])) (.skip)) [0,1,12,13])))))) [0,1,12,13])
 (R [0,1,12,13] [o 40 (Bn .add 13 1),v 13 40]))))
def code580:AFunc:=⟨false,false,2,44,[.tmp 4],
 S (R [0,1] [o 4 (.val (n 0))])
 (S (S (R [0,1,12,13] [v 7 0,o 8 (.nilcheck (t 7)),o 9 (Fa 8 4),o 10 (Lq 9),o 11 (Sl 10),o 12 (.bin .mul (n 4) (t 11)),o 13 (.val (n 0))])
 (.after (.block 0 (.loop code580L0)) [0,1]))
 (S (S (R [43] [v 41 0,v 42 1,o 43 (.callg 597 [t 41,t 42])])
 (.after (.cond (t 43) (S (R [4] [o 4 (.val (n 0))])
 (Z [4])) (.skip)) []))
 (S (R [4] [o 4 (.val (n 10))])
 (Z [4])))),none⟩
def rcode615a:ACode :=
 R [1,2,7] [v 7 48]
def rcode615b:ACode :=
 .after (.block 1 (S (R [1,2,8] [o 49 (Lq 1),v 50 7,o 51 (.callg 577 [t 49,t 50]),v 8 51])
 (S (R [1,2,8,53] [v 52 8,o 53 (Bn .neq 52 0)])
 (.after (.cond (t 53) (S (R [] [o 54 (Lq 1),v 55 8,o 56 (.callg 578 [t 54,t 55]),u (.store 1 (t 2) (t 56))])
 (Z [])) (.skip)) [])))) []
def round615:ARound:=⟨[48],rcode615a,rcode615b⟩
def code615:AFunc:=⟨false,false,0,0,[],.skip,some (.round round615)⟩
def code599:AFunc:=⟨false,false,1,62,[.cell 2 none],
 S (R [1,2] [o 1 (.box (t 0)),o 2 (.alloc 1 [.int .i64 0])])
 (S (R [1,2,3,4] [o 10 (Lq 1),o 11 (.nilcheck (t 10)),o 12 (Fa 11 4),o 13 (Lq 12),o 14 (.callg 5 [t 13]),v 9 14,o 15 (Xt 9 0),o 16 (Xt 9 1),v 3 15,v 4 16])
 (S (S (R [1,2,3,18] [v 17 4,o 18 (.un .not (t 17))])
 (.after (.cond (t 18) (S (R [2] [u (.store 1 (t 2) (n 10))])
 (Z [2])) (.skip)) [1,2,3]))
 (S (S (R [1,2,3,24] [v 19 3,o 20 (Lq 1),o 21 (.nilcheck (t 20)),o 22 (Fa 21 6),o 23 (Lq 22),o 24 (Bt .eql 19 23)])
 (.after (.cond (t 24) (R [1,2,3] [o 25 (Lq 1),o 26 (.nilcheck (t 25)),o 27 (Fa 26 6),u (.store 1 (t 27) (.const (.int .i64 (-1))))]) (.skip)) [1,2,3]))
 (S (R [1,2,3,5] [o 28 (Lq 1),v 29 3,o 30 (.callg 617 [t 28,t 29]),v 5 30])
 (S (S (.after (.region [⟨false,[],[v 31 5,o 32 (Sl 31),o 33 (Bn .gtr 32 0),v 34 33]⟩,⟨true,[],[g 35 34 true (Lq 1),g 36 34 true (Vl 5),g 37 34 true (.callg 579 [t 36])]⟩,⟨false,[],[g 38 34 true (.callg 597 [t 35,t 37]),g 39 34 true (.un .not (t 38)),o 40 (.pick (t 34) (t 39) F)]⟩]) [1,2,3,5,40])
 (.after (.cond (t 40) (S (R [1,2,3,5,6] [o 41 (Lq 1),o 42 (.callg 598 [t 41]),v 6 42])
 (S (R [1,2,3,5,6,44] [v 43 6,o 44 (Bn .neq 43 0)])
 (.after (.cond (t 44) (S (R [2] [v 45 6,u (.store 1 (t 2) (t 45))])
 (Z [2])) (.skip)) [1,2,3,5]))) (.skip)) [1,2,3,5]))
 (S (S (R [1,2,3,47] [v 46 5,o 47 (.callg 616 [t 46,n 16])])
 (.after (.block 0 (.after (.rangeFunc (t 47) 615 [1,2] [48] rcode615a rcode615b) [1,2,3])) [1,2,3]))
 (S (.after (.region [⟨true,[0,0,0,6],[o 57 (Lq 1),o 58 (Lq 1),v 59 3,o 60 (.callg 100594 [t 58,t 59])]⟩,⟨false,[],[o 61 (.callg 578 [t 57,t 60]),u (.store 1 (t 2) (t 61))]⟩]) [2])
 (Z [2])))))))),none⟩
def code617L0:ACode :=
 .live [2,8,32,33,34] (S (R [2,8,32,33,34,35] [o 35 (Bt .lss 34 33)])
 (S (.after (.cond (t 35) (.skip) (.live [8] (.exit 2))) [2,8,32,33,34])
 (S (.after (.block 3 (S (R [2,8,10,32,33,34] [o 36 (.iaddr 1 (t 32) (t 34)),o 37 (Lq 36),v 10 37])
 (R [2,8,32,33,34] [v 38 8,v 39 10,o 40 (Lq 2),o 41 (.nilcheck (t 40)),o 42 (Fa 41 5),o 43 (Lq 42),v 44 10,o 45 (.ext (.lookup (.one .s) (.agg [.int .i64 0,.int .i64 0,.str []]) false) [t 43,t 44]),o 46 (.field (t 45) 2 none),o 47 (.conv .bytes (t 46)),o 48 (.build [.int .i64 0,.int .u32 0,.str [],.slice none 0 (some 0),.int .i64 0] [(0,1,n 1),(2,1,t 39),(3,1,t 47)]),o 49 (.mkslice 5 1 [.int .i64 0,.int .u32 0,.str [],.slice none 0 (some 0),.int .i64 0] [(0,5,t 48)]),o 50 (.append 5 64 (t 38) (t 49)),v 8 50]))) [2,8,32,33,34])
 (R [2,8,32,33,34] [o 51 (Bn .add 34 1),v 34 51]))))
def code617L1:ACode :=
 .live [1,2,5,15] (S (.after (S (.next (some 16) (t 15)) (.region [⟨false,[],[o 17 (Xt 16 0)]⟩])) [1,2,5,15,17])
 (S (.after (.cond (t 17) (.skip) (.live [2,5] (.exit 0))) [1,2,5,15])
 (.after (.block 1 (S (R [1,2,5,6,7,15] [o 18 (.ext .entry [t 15]),o 19 (Xt 18 0),o 20 (Xt 18 1),o 7 (.lalloc [.int .i64 0,.int .i64 0,.str []]),v 6 19,u (.store 3 (t 7) (t 20))])
 (S (R [1,2,5,6,15,24] [o 21 (Fa 7 0),o 22 (Lq 21),v 23 1,o 24 (Bt .eql 22 23)])
 (.after (.cond (t 24) (R [1,2,5,15] [v 25 5,v 26 6,o 27 (.mkslice 1 1 [.str []] [(0,1,t 26)]),o 28 (.append 1 16 (t 25) (t 27)),v 5 28]) (.skip)) [1,2,5,15])))) [1,2,5,15])))
def code617:AFunc:=⟨false,true,2,53,[.tmp 4],
 S (R [1,2] [o 2 (.box (t 0)),o 4 (.val (.const (.slice none 0 (some 0))))])
 (S (R [1,2,5] [o 5 (.val (.const (.slice none 0 (some 0))))])
 (S (S (R [1,2,5,15] [o 11 (Lq 2),o 12 (.nilcheck (t 11)),o 13 (Fa 12 5),o 14 (Lq 13),o 15 (.ext .mkiter [t 14])])
 (.after (.block 0 (.loop code617L1)) [2,5]))
 (S (R [2,5] [v 29 5,o 30 (.mkfunc 627 [] [t 2]),o 31 (.callg 628 [t 29,t 30])])
 (S (R [2,5,8] [o 8 (.val (.const (.slice none 0 (some 0))))])
 (S (S (R [2,8,32,33,34] [v 32 5,o 33 (Sl 32),o 34 (.val (n 0))])
 (.after (.block 2 (.loop code617L0)) [8]))
 (S (R [4] [v 52 8,v 4 52])
 (Z [4]))))))),none⟩
def T:Nat→Option AFunc:=fun g=>match AbsBlb.T g with
 | some f=>some f
 | none=>List.lookup g [(88,code88),(140,code140),(142,code142),(480,code480),(494,code494),(495,code495),(496,code496),(497,code497),(505,code505),(506,code506),(507,code507),(522,code522),(512,code512),(513,code513),(525,code525),(531,code531),(542,code542),(549,code549),(555,code555),(556,code556),(567,code567),(570,code570),(580,code580),(615,code615),(599,code599),(617,code617)]
theorem sub:∀ g f,AbsBlb.T g=some f→T g=some f:=fun g f h=>by unfold T; rw [h]
theorem t88:T 88=some code88:=rfl
theorem t140:T 140=some code140:=rfl
theorem t142:T 142=some code142:=rfl
theorem t480:T 480=some code480:=rfl
theorem t494:T 494=some code494:=rfl
theorem t495:T 495=some code495:=rfl
theorem t496:T 496=some code496:=rfl
theorem t497:T 497=some code497:=rfl
theorem t505:T 505=some code505:=rfl
theorem t506:T 506=some code506:=rfl
theorem t507:T 507=some code507:=rfl
theorem t522:T 522=some code522:=rfl
theorem t512:T 512=some code512:=rfl
theorem t513:T 513=some code513:=rfl
theorem t525:T 525=some code525:=rfl
theorem t531:T 531=some code531:=rfl
theorem t542:T 542=some code542:=rfl
theorem t549:T 549=some code549:=rfl
theorem t555:T 555=some code555:=rfl
theorem t556:T 556=some code556:=rfl
theorem t567:T 567=some code567:=rfl
theorem t570:T 570=some code570:=rfl
theorem t580:T 580=some code580:=rfl
theorem t615:T 615=some code615:=rfl
theorem t599:T 599=some code599:=rfl
theorem t617:T 617=some code617:=rfl
end Go.Abs.AbsBlo

namespace Go.Abs.AbsBlo
open Go.Abs.AbsBlb hiding T
open Go.Abs.Short
theorem CodeD.run {E:Env} {T:Nat→Option AFunc} (hT:AgreesX E T) (hm:E.P.follows .mixedOrders=true) {c:ACode} {st st':St} {e:AExit} {Q:AExit→St→Prop} (h:∀ k':AExit→St→Option Unit,xK T c st (k:=⟨k'⟩)=k' e st') (hq:Q e st'):CodeD E c st Q :=
 CodeD.of_kX hT hm (by rw [h]; exact okIf_iff.2 hq)
theorem OpsD.run {E:Env} {T:Nat→Option AFunc} {K:Slots→Heap→Prop} {l r:List AOper} {s s1:Slots} {h h1:Heap} (e:∀ k:Slots→Heap→Option (Slots × Heap),opsK (xCall T) l s h (k:=⟨k⟩)=k s1 h1) (hr:OpsD E T K r s1 h1):OpsD E T K (l++r) s h:=by
 refine OpsD.ops (s1:=s1) (h1:=h1) ?_ hr;have:=e fun s h=>some (s,h)
 unfold opsK at this;cases hx:evOps (xCall T) l s h with
 | none=>rw [hx] at this; cases this
 | some p=>rw [hx] at this; exact this
def keyC (k:Bs):List AVal:=[.str k]
theorem mr:∀ A:List Bs,A.flatMap keyC=A.map AVal.str
 | []=>rfl
 | a :: A=>by rw [dy,mr A]; rfl
section
variable {H:List AObj} {b w:Nat} {I:SI} {F:Fl} {K:StU}
end
end Go.Abs.AbsBlo

namespace Go.Abs.AbsList
open Go.Lib
def lo64:Int:=-9223372036854775808
def hi64:Int:=9223372036854775807
theorem zah (u:Nat) (h:¬ u < 10):decDigits u=decDigits (u / 10)++[UInt8.ofNat (48+u % 10)]:=by rw [decDigits,dif_neg h]
end Go.Abs.AbsList
