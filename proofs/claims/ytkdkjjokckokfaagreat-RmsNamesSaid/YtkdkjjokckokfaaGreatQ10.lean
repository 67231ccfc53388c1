/-
  Texts joined.
-/
import Derived.Test.YtkdkjjokckokfaaGreatQ0
import Derived.Test.YtkdkjjokckokfaaGreatQ6
import Derived.Lib.MakeNoZero
import Derived.Test.YtkdkjjokckokfaaGreatQ8
import Derived.Test.YtkdkjjokckokfaaGreatQ9
import Derived.Test.YtkdkjjokckokfaaGreatQ7
set_option linter.unusedVariables false
set_option linter.unusedSimpArgs false
set_option maxRecDepth 100000
namespace Go.Abs
section
variable {E:Env} {T:Nat→Option AFunc}
def CallD (E:Env) (g:Nat) (args:List AVal) (h:Heap) (R:AVal→Heap→Prop):Prop :=
  ∀ f,E.gid f=some g→∀ (μ:MM) (w:World) (args':Array Value),VRels E μ args args'.toList→Rel E μ h w→CallsIn (F0 none) 0 E.P f args' w fun e w'=>∃ v h',R v h'∧Evol h h'∧Ends E μ w v h' e w'
def CodeD (E:Env) (c:ACode) (st:St) (Q:AExit→St→Prop):Prop :=
  ∀ (nt:Nat) (hint:Hint) (code:Code),cj E nt false hint code=some c→(∀ p ∈ c.rounds,E.rnd p.1=some p.2)→∀ (lo:Nat) (μ0:MM) (w0:World) (ds:List Deferred) (a:Act) (w:World) (Qm:Exit→Act→World→Prop),At E lo nt μ0 w0 ds st.s st.h a w →
    (∀ e st',Q e st'→Evol st.h st'.h→∀ a' w',At E lo nt μ0 w0 ds st'.s st'.h a' w'→Qm e.toX a' w')→code.wpIn (F0 none) 0 E.P Qm a w
theorem CodeD.of_x (hT:Agrees E T) (hm:E.P.follows .mixedOrders=true) {c:ACode} {st st':St} {e:AExit} {Q:AExit→St→Prop} (h:jb T c st=some (e,st')) (hq:Q e st'):CodeD E c st Q:=by intro nt hint code hcc hrd lo μ0 w0 ds a w Qm hat hn;obtain ⟨n,hn'⟩:=(d0 T _ _ _).1 h;exact pj (n8 hT hm n) (kw T n) hT.gid hm false (fun _=>rfl) n hint code c hcc (fun _=>hrd) st e st' hn' a w Qm hat (hn e st' hq (nk (kw T n) n _ _ _ _ hn'))
theorem CodeD.of_wp (hT:Agrees E T) (hm:E.P.follows .mixedOrders=true) {c:ACode} {st:St} {Q:AExit→St→Prop} (h:Wp T c st Q):CodeD E c st Q:=by intro nt hint code hcc hrd lo μ0 w0 ds a w Qm hat hn;obtain ⟨n,l,h1,_,h3⟩:=h;exact zy (n8 hT hm n) (kw T n) hT.gid hm false (fun _=>rfl) n hint code c hcc (fun _=>hrd) st l h1 a w Qm hat fun y hy a' w' hat'=>hn y.1 y.2 (h3 y hy) (w8 (kw T n) n _ _ _ h1 y hy) a' w' hat'
theorem CodeD.mono {c:ACode} {st:St} {Q Q':AExit→St→Prop} (h:CodeD E c st Q) (hq:∀ e st',Q e st'→Evol st.h st'.h→Q' e st'):CodeD E c st Q' :=
  fun nt hint code hcc hrd lo μ0 w0 ds a w Qm hat hn=>h nt hint code hcc hrd lo μ0 w0 ds a w Qm hat fun e st' h1 h2=>hn e st' (hq e st' h1 h2) h2
theorem inv_seq {nt:Nat} {hint:Hint} {code:Code} {a b:ACode} (h:cj E nt false hint code=some (.seq a b)) (hne:∀ d x,a ≠ .next d x):∃ ha hb x y,code = .seq x y∧cj E nt false ha x=some a∧cj E nt false hb y=some b:=by
  cases hint with
  | seq ha hb =>
    cases code <;> simp only [cj,reduceCtorEq] at h
    rename_i x y;split at h
    · rename_i p q h1 h2; cases h; exact ⟨_,_,_,_,rfl,h1,h2⟩
    · cases h
  | next =>
    obtain ⟨d,y,r,e⟩:=l7 h;cases e;exact absurd rfl (hne d y)
  | live l a=>simp only [cj,ae] at h; obtain ⟨_,_,h⟩:=h; cases h
  | after a l=>simp only [cj,ae] at h; obtain ⟨_,_,h⟩:=h; cases h
  | stuck=>simp only [cj] at h; cases h
  | leaf=>cases code <;> simp only [cj] at h <;> cases h
  | reg s l=>cases code <;> simp only [cj,ae,reduceCtorEq] at h; obtain ⟨_,_,h⟩:=h; cases h
  | cond a b =>
    cases code <;> simp only [cj,reduceCtorEq] at h
    split at h <;> cases h
  | block a=>cases code <;> simp only [cj,ae,reduceCtorEq] at h; obtain ⟨_,_,h⟩:=h; cases h
  | loop a=>cases code <;> simp only [cj,ae,reduceCtorEq] at h; obtain ⟨_,_,h⟩:=h; cases h
  | rangeFunc g c a b =>
    cases code <;> simp only [cj,reduceCtorEq] at h
    split at h
    · split at h <;> cases h
    · cases h
theorem CodeD.seq {a b:ACode} {st:St} {Q:AExit→St→Prop} (hne:∀ d x,a ≠ .next d x) (h:CodeD E a st fun e st'=>match e with | .normal=>CodeD E b st' Q | e=>Q e st'):CodeD E (.seq a b) st Q:=by
  intro nt hint code hcc hrd lo μ0 w0 ds t w Qm hat hn;obtain ⟨ha,hb,x,y,rfl,h1,h2⟩:=inv_seq hcc hne;apply wpIn_seq;refine h nt ha x h1 (fun p hp=>hrd p (by simp [ACode.rounds,hp])) lo μ0 w0 ds t w _ hat fun e st' hq hev a' w' hat'=>?_
  cases e with
  | normal=>exact hq nt hb y h2 (fun p hp=>hrd p (by simp [ACode.rounds,hp])) lo μ0 w0 ds a' w' Qm hat' fun e2 st2 hq2 hev2=>hn e2 st2 hq2 (hev.trans hev2)
  | exit i=>exact hn _ _ hq hev _ _ hat'
  | ret=>exact hn _ _ hq hev _ _ hat'
theorem inv_block {nt:Nat} {hint:Hint} {code:Code} {id:Nat} {a:ACode} (h:cj E nt false hint code=some (.block id a)):∃ ha x,code = .block id x∧cj E nt false ha x=some a:=by
  cases hint with
  | block ha =>
    cases code <;> simp only [cj,ae,reduceCtorEq] at h
    obtain ⟨_,h1,h⟩:=h; cases h; exact ⟨_,_,rfl,h1⟩
  | next=>obtain ⟨d,y,r,e⟩:=l7 h; cases e
  | live l a=>simp only [cj,ae] at h; obtain ⟨_,_,h⟩:=h; cases h
  | after a l=>simp only [cj,ae] at h; obtain ⟨_,_,h⟩:=h; cases h
  | stuck=>simp only [cj] at h; cases h
  | leaf=>cases code <;> simp only [cj] at h <;> cases h
  | reg s l=>cases code <;> simp only [cj,ae,reduceCtorEq] at h; obtain ⟨_,_,h⟩:=h; cases h
  | seq a b =>
    cases code <;> simp only [cj,reduceCtorEq] at h
    split at h <;> cases h
  | cond a b =>
    cases code <;> simp only [cj,reduceCtorEq] at h
    split at h <;> cases h
  | loop a=>cases code <;> simp only [cj,ae,reduceCtorEq] at h; obtain ⟨_,_,h⟩:=h; cases h
  | rangeFunc g c a b =>
    cases code <;> simp only [cj,reduceCtorEq] at h
    split at h
    · split at h <;> cases h
    · cases h
theorem inv_loop {nt:Nat} {hint:Hint} {code:Code} {a:ACode} (h:cj E nt false hint code=some (.loop a)):∃ ha x,code = .loop x∧cj E nt false ha x=some a:=by
  cases hint with
  | loop ha =>
    cases code <;> simp only [cj,ae,reduceCtorEq] at h
    obtain ⟨_,h1,h⟩:=h; cases h; exact ⟨_,_,rfl,h1⟩
  | next=>obtain ⟨d,y,r,e⟩:=l7 h; cases e
  | live l a=>simp only [cj,ae] at h; obtain ⟨_,_,h⟩:=h; cases h
  | after a l=>simp only [cj,ae] at h; obtain ⟨_,_,h⟩:=h; cases h
  | stuck=>simp only [cj] at h; cases h
  | leaf=>cases code <;> simp only [cj] at h <;> cases h
  | reg s l=>cases code <;> simp only [cj,ae,reduceCtorEq] at h; obtain ⟨_,_,h⟩:=h; cases h
  | seq a b =>
    cases code <;> simp only [cj,reduceCtorEq] at h
    split at h <;> cases h
  | cond a b =>
    cases code <;> simp only [cj,reduceCtorEq] at h
    split at h <;> cases h
  | block a=>cases code <;> simp only [cj,ae,reduceCtorEq] at h; obtain ⟨_,_,h⟩:=h; cases h
  | rangeFunc g c a b =>
    cases code <;> simp only [cj,reduceCtorEq] at h
    split at h
    · split at h <;> cases h
    · cases h
theorem inv_live {nt:Nat} {hint:Hint} {code:Code} {l:List Nat} {a:ACode} (h:cj E nt false hint code=some (.live l a)):∃ ha,cj E nt false ha code=some a:=by
  cases hint with
  | live l a=>simp only [cj,ae] at h; obtain ⟨_,h1,h⟩:=h; cases h; exact ⟨_,h1⟩
  | next=>obtain ⟨d,y,r,e⟩:=l7 h; cases e
  | after a l=>simp only [cj,ae] at h; obtain ⟨_,_,h⟩:=h; cases h
  | stuck=>simp only [cj] at h; cases h
  | leaf=>cases code <;> simp only [cj] at h <;> cases h
  | reg s l=>cases code <;> simp only [cj,ae,reduceCtorEq] at h; obtain ⟨_,_,h⟩:=h; cases h
  | seq a b =>
    cases code <;> simp only [cj,reduceCtorEq] at h
    split at h <;> cases h
  | cond a b =>
    cases code <;> simp only [cj,reduceCtorEq] at h
    split at h <;> cases h
  | block a=>cases code <;> simp only [cj,ae,reduceCtorEq] at h; obtain ⟨_,_,h⟩:=h; cases h
  | loop a=>cases code <;> simp only [cj,ae,reduceCtorEq] at h; obtain ⟨_,_,h⟩:=h; cases h
  | rangeFunc g c a b =>
    cases code <;> simp only [cj,reduceCtorEq] at h
    split at h
    · split at h <;> cases h
    · cases h
theorem inv_after {nt:Nat} {hint:Hint} {code:Code} {l:List Nat} {a:ACode} (h:cj E nt false hint code=some (.after a l)):∃ ha,cj E nt false ha code=some a:=by
  cases hint with
  | after a l=>simp only [cj,ae] at h; obtain ⟨_,h1,h⟩:=h; cases h; exact ⟨_,h1⟩
  | next=>obtain ⟨d,y,r,e⟩:=l7 h; cases e
  | live l a=>simp only [cj,ae] at h; obtain ⟨_,_,h⟩:=h; cases h
  | stuck=>simp only [cj] at h; cases h
  | leaf=>cases code <;> simp only [cj] at h <;> cases h
  | reg s l=>cases code <;> simp only [cj,ae,reduceCtorEq] at h; obtain ⟨_,_,h⟩:=h; cases h
  | seq a b =>
    cases code <;> simp only [cj,reduceCtorEq] at h
    split at h <;> cases h
  | cond a b =>
    cases code <;> simp only [cj,reduceCtorEq] at h
    split at h <;> cases h
  | block a=>cases code <;> simp only [cj,ae,reduceCtorEq] at h; obtain ⟨_,_,h⟩:=h; cases h
  | loop a=>cases code <;> simp only [cj,ae,reduceCtorEq] at h; obtain ⟨_,_,h⟩:=h; cases h
  | rangeFunc g c a b =>
    cases code <;> simp only [cj,reduceCtorEq] at h
    split at h
    · split at h <;> cases h
    · cases h
theorem CodeD.block {id:Nat} {c:ACode} {st:St} {Q:AExit→St→Prop} (h:CodeD E c st fun e st'=>Q (blkE id e) st'):CodeD E (.block id c) st Q:=by
  intro nt hint code hcc hrd lo μ0 w0 ds u w Qm hat hn;obtain ⟨ha,x,rfl,h1⟩:=inv_block hcc;apply wpIn_block;refine h nt ha x h1 hrd lo μ0 w0 ds u w _ hat fun e st' hq hev a' w' hat'=>?_
  have:=hn _ _ hq hev a' w' hat';cases e with
  | normal=>exact this
  | ret=>exact this
  | exit j =>
    simp only [AExit.toX,Exit.inBlock];simp only [blkE] at this;split
    · rename_i hj; rw [if_pos hj] at this; exact this
    · rename_i hj; rw [if_neg hj] at this; exact this
theorem CodeD.live {l:List Nat} {c:ACode} {st:St} {Q:AExit→St→Prop} (h:CodeD E c ⟨keepK l st.s,st.h⟩ Q):CodeD E (.live l c) st Q:=by rw [pu] at h;intro nt hint code hcc hrd lo μ0 w0 ds u w Qm hat hn;obtain ⟨ha,h1⟩:=inv_live hcc;exact h nt ha code h1 hrd lo μ0 w0 ds u w Qm (hat.keep l) hn
theorem CodeD.after {l:List Nat} {c:ACode} {st:St} {Q:AExit→St→Prop} (h:CodeD E c st fun e st'=>match e with | .normal=>Q .normal ⟨keepK l st'.s,st'.h⟩ | e=>Q e st'):CodeD E (.after c l) st Q:=by
  intro nt hint code hcc hrd lo μ0 w0 ds u w Qm hat hn;obtain ⟨ha,h1⟩:=inv_after hcc;refine h nt ha code h1 hrd lo μ0 w0 ds u w _ hat fun e st' hq hev a' w' hat'=>?_
  cases e with
  | normal =>
    simp only at hq;rw [pu] at hq;exact hn _ _ hq hev _ _ (hat'.keep l)
  | exit i=>exact hn _ _ hq hev _ _ hat'
  | ret=>exact hn _ _ hq hev _ _ hat'
theorem CodeD.loop {c:ACode} {Q:AExit→St→Prop} (Inv:Nat→St→Prop) (step:∀ k st,Inv k st→CodeD E c st fun e st'=>match e with | .normal=>∃ j,j < k∧Inv j st' | e=>Q e st') (k:Nat) (st:St) (h0:Inv k st):CodeD E (.loop c) st Q:=by
  intro nt hint code hcc hrd lo μ0 w0 ds u w Qm hat hn;obtain ⟨ha,x,rfl,h1⟩:=inv_loop hcc
  have key:∀ (n k:Nat) (st1:St) (a:Act) (w:World),k < n→Inv k st1→Evol st.h st1.h→At E lo nt μ0 w0 ds st1.s st1.h a w→Code.roundsIn (F0 none) 0 E.P x Qm n a w:=by
    intro n;induction n with
    | zero=>intro k st1 a w hk; omega
    | succ n ih =>
      intro k st1 a w hk hi hev hat1;rw [roundsIn_succ];refine step k st1 hi nt ha x h1 hrd lo μ0 w0 ds a w _ hat1 fun e st2 hq hev2 a' w' hat'=>?_
      cases e with
      | normal =>
        obtain ⟨j,hj,hi'⟩:=hq;exact ih j st2 a' w' (by omega) hi' (hev.trans hev2) hat'
      | exit i=>exact hn _ _ hq (hev.trans hev2) _ _ hat'
      | ret=>exact hn _ _ hq (hev.trans hev2) _ _ hat'
  exact wpIn_loop_rounds (k+1) (key (k+1) k st u w (by omega) h0 (Evol.refl _) hat)
inductive OpsD (E:Env) (T:Nat→Option AFunc) (K:Slots→Heap→Prop):List AOper→Slots→Heap→Prop
  | done {s:Slots} {h:Heap}:K s h→OpsD E T K [] s h
  | op {o:AOper} {r:List AOper} {s s1:Slots} {h h1:Heap}:fe (xCall T) o s h=some (s1,h1)→OpsD E T K r s1 h1→OpsD E T K (o :: r) s h
  | call {o:AOper} {r:List AOper} {s:Slots} {h:Heap} {g:Nat} {xs:List Opd} {vs:List AVal} {R:AVal→Heap→Prop}:o.guard=none→o.op = .callg g xs→evs s xs=some vs→CallD E g vs h R→(∀ v h',R v h'→OpsD E T K r (a8 o.dst (.val v) s) h')→OpsD E T K (o :: r) s h
  | callv {o:AOper} {r:List AOper} {s:Slots} {h:Heap} {g:Nat} {x:Opd} {xs:List Opd} {first caps vs:List AVal} {R:AVal→Heap→Prop}:o.guard=none→o.op = .call x xs→x.ev s=some (.func g first caps)→evs s xs=some vs→CallD E g (first++vs++caps) h R→(∀ v h',R v h'→OpsD E T K r (a8 o.dst (.val v) s) h')→OpsD E T K (o :: r) s h
  | noZero {o:AOper} {r:List AOper} {s:Slots} {h:Heap} {x:Opd} {n:Nat}:o.guard=none→o.op = .ext (.pure (.prim .noZero)) [x]→x.ev s=some (.int .i64 n)→n≤140737488355328 →
      (∀ bs:List UInt8,bs.length=n→OpsD E T K r (a8 o.dst (.val (.slice (some (h.size,0)) n none)) s) (h.push (.cells 1 (bs.map fun b=>.int .u8 b.toNat))))→OpsD E T K (o :: r) s h
theorem OpsD.ops {K:Slots→Heap→Prop}:∀ {l r:List AOper} {s s1:Slots} {h h1:Heap},evOps (xCall T) l s h=some (s1,h1)→OpsD E T K r s1 h1→OpsD E T K (l++r) s h
  | [],r,s,s1,h,h1,e,k=>by simp only [evOps] at e; cases e; exact k
  | o :: l,r,s,s1,h,h1,e,k=>by
    simp only [evOps] at e;split at e;case h_2=>cases e
    rename_i s2 h2 e2;exact .op e2 (OpsD.ops e k)
section
variable {lo nt:Nat} {μ0:MM} {w0:World} {ds:List Deferred} {s:Slots} {h:Heap} {a:Act} {w:World} {ops:Array Oper} {Q:Exit→Act→World→Prop}
theorem run_soundD (hg:GidOK E) {loc:Bool} {o:Oper} {o':AOper} {g:Nat} {xs:List Opd} {vs:List AVal} {R:AVal→Heap→Prop} (hop:ky E nt ops loc o=some o') (hcall:o'.op = .callg g xs) (hgd:o'.guard=none) (hvs:evs s xs=some vs) (hcd:CallD E g vs h R)
    (hat:At E lo nt μ0 w0 ds s h a w) {next:Act→World→Prop} (hn:∀ v h',R v h'→Evol h h'→∀ a' w',At E lo nt μ0 w0 ds (a8 o'.dst (.val v) s) h' a' w'→next a' w') :
    if Region.wanted o (yielded ops a.tmps) then o.wpIn (F0 none) 0 E.P a w next Q else next (a.put o.dst Go.undef) w:=by
  unfold ky at hop;split at hop;case isFalse=>cases hop
  rename_i hh;simp only [a7,dt,fp] at hh;have hd:∀ t,o.dst=some t→t < nt:=fun t ht=>by have:=hh.1; rw [ht] at this; simpa using this
  split at hop
  case h_2 =>
    exfalso;split at hop;case h_2=>cases hop
    cases hop;cases hgd
  rename_i hg0;cases hop;have hw:Region.wanted o (yielded ops a.tmps)=true:=by simp [Region.wanted,hg0]
  rw [if_pos hw];simp only at hcall hn
  have hao:cOp E loc o.op=some (.callg g xs):=by
    cases hco:cOp E loc o.op with
    | some ao=>rw [cOpS,hco] at hcall; simpa using hcall
    | none=>rw [cOpS,hco] at hcall; simp at hcall
  obtain ⟨μ,ν,k1,k2,k3,k4,k5,k6⟩:=hat;have hnd:∀ c,o.op ≠ .defer c:=fun c hc'=>by rw [hc'] at hao; simp [cOp] at hao
  refine ⟨fun _ _=>trivial,?_⟩;rw [Oper.semAt_eq _ _ _ hnd]
  have hcop:∃ c,o.op = .call c∧cCall E c=some (.callg g xs):=by
    cases ho:o.op with
    | call c=>exact ⟨c,rfl,by rw [ho] at hao; simpa only [cOp] using hao⟩
    | makeFunc fn x1 x2 =>
      rw [ho] at hao;exfalso;cases fn <;> simp only [cOp] at hao <;> (try (cases hao; done))
      split at hao <;> cases hao
    | makeMap t hint =>
      rw [ho] at hao;exfalso
      cases hint with
         | none=>simp [cOp] at hao
         | some y =>
           cases y with
           | const v=>cases v <;> simp only [cOp] at hao <;> first | (cases hao; done) | (split at hao <;> cases hao)
           | _=>simp [cOp] at hao
    | _ =>
      rw [ho] at hao;exfalso;simp only [cOp,cBin,cConv,cEq] at hao;repeat' split at hao
      all_goals first
        | (cases hao; done)
        | (rw [ae] at hao; obtain ⟨_,_,hao⟩:=hao; first | (cases hao; done) | (split at hao <;> cases hao))
  obtain ⟨c,hcop,hcc⟩:=hcop;unfold cCall at hcc;split at hcc
  · rename_i f hcal
    split at hcc
    case h_2 =>
      exfalso;rw [ae] at hcc;obtain ⟨_,_,hcc⟩:=hcc;cases hcc
    case h_3=>cases hcc
    rename_i g' aZ hgf has;cases hcc;have hargs:=ke k3 has hvs
    have hrun:(execOp a.eval o).run E.P w = .ok (.enter f (c.args.map a.eval)) w:=by have:=jo hg hgf (c.args.map a.eval) w;simp [execOp,hcop,resolve,hcal,Act.eval,Deferred.ofValue,invoke,this]
    rw [hrun,Oper.uponIn_enter];refine ⟨fun hh=>by simp [F0,Fence.wide] at hh,?_⟩;refine CallsIn.mono (F:=F0 none) (n:=0) (hcd f hgf μ w (c.args.map a.eval) (by simpa using hargs) k2) fun e w' he=>?_
    obtain ⟨v,h',hR,hevol,v',μ',rfl,j1,j2,j3⟩:=he;refine hn v h' hR hevol _ _ ⟨μ',ν,?_,j3,?_,by rw [np]; exact k4,by rw [ll]; exact k5,cf k6 j1.size⟩
    · exact k1.trans (j1.weaken (aj _) fun b hb _=>hb.elim) hevol.wmin
    · rw [iu]
      exact ((k3.step j1 fun b _ hb=>hb).setVal (fun y hy=>by rw [k4]; exact hd y hy) j2).congr fun t=>je _ _ _ _
  · exfalso
    split at hcc;case h_2=>cases hcc
    cases hcc
  · exfalso
    repeat' split at hcc
    all_goals first
      | (cases hcc; done)
      | (rw [ae] at hcc; obtain ⟨_,_,hcc⟩:=hcc; cases hcc)
  · cases hcc
theorem run_soundV (hg:GidOK E) {loc:Bool} {o:Oper} {o':AOper} {g:Nat} {x:Opd} {xs:List Opd} {first caps vs:List AVal} {R:AVal→Heap→Prop} (hop:ky E nt ops loc o=some o') (hcall:o'.op = .call x xs) (hgd:o'.guard=none) (hxv:x.ev s=some (.func g first caps)) (hvs:evs s xs=some vs) (hcd:CallD E g (first++vs++caps) h R)
    (hat:At E lo nt μ0 w0 ds s h a w) {next:Act→World→Prop} (hn:∀ v h',R v h'→Evol h h'→∀ a' w',At E lo nt μ0 w0 ds (a8 o'.dst (.val v) s) h' a' w'→next a' w') :
    if Region.wanted o (yielded ops a.tmps) then o.wpIn (F0 none) 0 E.P a w next Q else next (a.put o.dst Go.undef) w:=by
  unfold ky at hop;split at hop;case isFalse=>cases hop
  rename_i hh;simp only [a7,dt,fp] at hh;have hd:∀ t,o.dst=some t→t < nt:=fun t ht=>by have:=hh.1; rw [ht] at this; simpa using this
  split at hop
  case h_2 =>
    exfalso;split at hop;case h_2=>cases hop
    cases hop;cases hgd
  rename_i hg0;cases hop;have hw:Region.wanted o (yielded ops a.tmps)=true:=by simp [Region.wanted,hg0]
  rw [if_pos hw];simp only at hcall hn
  have hao:cOp E loc o.op=some (.call x xs):=by
    cases hco:cOp E loc o.op with
    | some ao=>rw [cOpS,hco] at hcall; simpa using hcall
    | none=>rw [cOpS,hco] at hcall; simp at hcall
  obtain ⟨μ,ν,k1,k2,k3,k4,k5,k6⟩:=hat;have hnd:∀ c,o.op ≠ .defer c:=fun c hc'=>by rw [hc'] at hao; simp [cOp] at hao
  refine ⟨fun _ _=>trivial,?_⟩;rw [Oper.semAt_eq _ _ _ hnd]
  have hcop:∃ c,o.op = .call c∧cCall E c=some (.call x xs):=by
    cases ho:o.op with
    | call c=>exact ⟨c,rfl,by rw [ho] at hao; simpa only [cOp] using hao⟩
    | makeFunc fn x1 x2 =>
      rw [ho] at hao;exfalso;cases fn <;> simp only [cOp] at hao <;> (try (cases hao; done))
      split at hao <;> cases hao
    | makeMap t hint =>
      rw [ho] at hao;exfalso
      cases hint with
         | none=>simp [cOp] at hao
         | some y =>
           cases y with
           | const v=>cases v <;> simp only [cOp] at hao <;> first | (cases hao; done) | (split at hao <;> cases hao)
           | _=>simp [cOp] at hao
    | _ =>
      rw [ho] at hao;exfalso;simp only [cOp,cBin,cConv,cEq] at hao;repeat' split at hao
      all_goals first
        | (cases hao; done)
        | (rw [ae] at hao; obtain ⟨_,_,hao⟩:=hao; first | (cases hao; done) | (split at hao <;> cases hao))
  obtain ⟨c,hcop,hcc⟩:=hcop;unfold cCall at hcc;split at hcc
  · exfalso
    split at hcc
    case h_2 =>
      rw [ae] at hcc;obtain ⟨_,_,hcc⟩:=hcc;cases hcc
    case h_3=>cases hcc
    cases hcc
  · rename_i y hne hcal
    split at hcc;case h_2=>cases hcc
    rename_i y' aZ hy has;cases hcc;have hargs:=ke k3 has hvs;have hfv:=ce k3 hy hxv;simp only [VRel] at hfv;obtain ⟨fid,f',c',q1,q2,q3,q4⟩:=hfv
    have hrun:(execOp a.eval o).run E.P w = .ok (.enter fid (f'++c.args.map a.eval++c')) w:=by have:=jo hg q2 (f'++(c.args.map a.eval++c')) w;simp [execOp,hcop,resolve,hcal,q1,Deferred.ofValue,invoke,this]
    rw [hrun,Oper.uponIn_enter];refine ⟨fun hh=>by simp [F0,Fence.wide] at hh,?_⟩;refine CallsIn.mono (F:=F0 none) (n:=0) (hcd fid q2 μ w (f'++c.args.map a.eval++c') (by simpa using (q3.append hargs).append q4) k2) fun e w' he=>?_
    obtain ⟨v,h',hR,hevol,v',μ',rfl,j1,j2,j3⟩:=he;refine hn v h' hR hevol _ _ ⟨μ',ν,?_,j3,?_,by rw [np]; exact k4,by rw [ll]; exact k5,cf k6 j1.size⟩
    · exact k1.trans (j1.weaken (aj _) fun b hb _=>hb.elim) hevol.wmin
    · rw [iu]
      exact ((k3.step j1 fun b _ hb=>hb).setVal (fun y hy=>by rw [k4]; exact hd y hy) j2).congr fun t=>je _ _ _ _
  · exfalso
    repeat' split at hcc
    all_goals first
      | (cases hcc; done)
      | (rw [ae] at hcc; obtain ⟨_,_,hcc⟩:=hcc; cases hcc)
  · cases hcc
theorem mnz_find {fn:Func} (h:fn.name = "internal/bytealg.MakeNoZero"):Extern.find fn=some (Extern.BytealgMakeNoZero.makeNoZero fn.params fn.resultTypes):=by
  have h1:Extern.allGenericRows.lookup "internal/bytealg.MakeNoZero" = none:=by kernel_rfl
  have h2:Extern.allTypedRows.lookup "internal/bytealg.MakeNoZero" = some Extern.BytealgMakeNoZero.makeNoZero:=by kernel_rfl
  unfold Extern.find;simp only [h,h1,h2];rfl
theorem mnz_next {fn:Func} (h:fn.name = "internal/bytealg.MakeNoZero") (ho:fn.origin = ""):Extern.findNext fn=none:=by
  have h1:Extern.allNextRows.lookup "internal/bytealg.MakeNoZero" = none:=by kernel_rfl
  have h3:Extern.allNextRows.lookup "" = none:=by kernel_rfl
  unfold Extern.findNext;simp only [h,ho,h1,h3];rfl
theorem yy:∀ (n t:Nat) (acc:Array Value),∃ ds:List UInt8,ds.length=n∧(Extern.BytealgMakeNoZero.digits n t acc).toList=acc.toList++ds.map fun b=>.int .u8 b.toNat
  | 0,_,acc=>⟨[],rfl,by simp [Extern.BytealgMakeNoZero.digits]⟩
  | n+1,t,acc=>by
    obtain ⟨ds,h1,h2⟩:=yy n (t / 256) (acc.push (.int .u8 (Int.ofNat (t % 256))));refine ⟨UInt8.ofNat (t % 256) :: ds,by simp [h1],?_⟩;rw [Extern.BytealgMakeNoZero.digits,h2];have:(UInt8.ofNat (t % 256)).toNat=t % 256:=by simp
    simp [this]
theorem run_mnz {P:Program} (w:World) (ps:Array TypeId) (t e:TypeId) (ht:P.underlying t=some (.slice e)) (n:Nat) (hn:n≤281474976710656) :
    ∃ (cs:Array Value) (ds:List UInt8),(Extern.BytealgMakeNoZero.makeNoZero ps #[t] #[.int .i64 n]).run P w = .ok (.slice (some ⟨w.heap.size,0,none⟩) n cs.size) (w.drew.drew.alloc (.cells cs e))∧n≤cs.size∧(n≤maxLen→cs.size≤maxLen)∧cs.toList=ds.map fun b=>.int .u8 b.toNat:=by
  have hdef:Extern.BytealgMakeNoZero.makeNoZero ps #[t] #[.int .i64 n] =
      (do
        let .slice elem ← underlying t | stuck "bytealg.MakeNoZero: slice type expected"
        if (n:Int) < 0 || (n:Int) > 2 ^ 48 then runtimePanic (.error "makeslice: len out of range")
        let cap ← choose (.appendCap (n:Int).toNat 0 elem)
        askRoom cap
        let bytes ← choose (.extern "internal/bytealg.MakeNoZero.bytes" 0)
        let a ← newRow elem (Extern.BytealgMakeNoZero.digits cap bytes #[])
        pure (.slice (some a) (n:Int).toNat cap)):=rfl
  obtain ⟨ds,h1,h2⟩:=yy (grownCap w n 0 e) ((Question.extern "internal/bytealg.MakeNoZero.bytes" 0).cut (w.tape (w.drawn+1) (.extern "internal/bytealg.MakeNoZero.bytes" 0))) #[];refine ⟨Extern.BytealgMakeNoZero.digits (grownCap w n 0 e) ((Question.extern "internal/bytealg.MakeNoZero.bytes" 0).cut (w.tape (w.drawn+1) (.extern "internal/bytealg.MakeNoZero.bytes" 0))) #[],ds,?_,?_,?_,by simpa using h2⟩
  · rw [hdef]
    have h1:¬ (n:Int) < 0:=by omega
    have h2:¬ (281474976710656:Int) < (n:Int):=by omega
    simp [run_underlying ht,h1,h2,Question.forced,newRow,Lib.size_digits,grownCap]
  · rw [Lib.size_digits]
    simpa using grownCap_ge w n 0 e
  · intro hm
    rw [Lib.size_digits];simpa using grownCap_le_maxLen w n 0 e hm
theorem run_noZero {loc:Bool} {o:Oper} {o':AOper} {x:Opd} {n:Nat} (hop:ky E nt ops loc o=some o') (hcall:o'.op = .ext (.pure (.prim .noZero)) [x]) (hgd:o'.guard=none) (hx:x.ev s=some (.int .i64 n)) (hn48:n≤140737488355328)
    (hat:At E lo nt μ0 w0 ds s h a w) {next:Act→World→Prop} (hn:∀ bs:List UInt8,bs.length=n→Evol h (h.push (.cells 1 (bs.map fun b=>.int .u8 b.toNat)))→∀ a' w',At E lo nt μ0 w0 ds (a8 o'.dst (.val (.slice (some (h.size,0)) n none)) s) (h.push (.cells 1 (bs.map fun b=>.int .u8 b.toNat))) a' w'→next a' w') :
    if Region.wanted o (yielded ops a.tmps) then o.wpIn (F0 none) 0 E.P a w next Q else next (a.put o.dst Go.undef) w:=by
  unfold ky at hop;split at hop;case isFalse=>cases hop
  rename_i hh;simp only [a7,dt,fp] at hh;have hd:∀ t,o.dst=some t→t < nt:=fun t ht=>by have:=hh.1; rw [ht] at this; simpa using this
  split at hop
  case h_2 =>
    exfalso;split at hop;case h_2=>cases hop
    cases hop;cases hgd
  rename_i hg0;cases hop;have hw:Region.wanted o (yielded ops a.tmps)=true:=by simp [Region.wanted,hg0]
  rw [if_pos hw];simp only at hcall hn
  have hao:cOp E loc o.op=some (.ext (.pure (.prim .noZero)) [x]):=by
    cases hco:cOp E loc o.op with
    | some ao=>rw [cOpS,hco] at hcall; simpa using hcall
    | none=>rw [cOpS,hco] at hcall; simp at hcall
  obtain ⟨μ,ν,k1,k2,k3,k4,k5,k6⟩:=hat;have hnd:∀ c,o.op ≠ .defer c:=fun c hc'=>by rw [hc'] at hao; simp [cOp] at hao
  refine ⟨fun _ _=>trivial,?_⟩;rw [Oper.semAt_eq _ _ _ hnd]
  have hcop:∃ c,o.op = .call c∧cCall E c=some (.ext (.pure (.prim .noZero)) [x]):=by
    cases ho:o.op with
    | call c=>exact ⟨c,rfl,by rw [ho] at hao; simpa only [cOp] using hao⟩
    | makeFunc fn x1 x2 =>
      rw [ho] at hao;exfalso;cases fn <;> simp only [cOp] at hao <;> (try (cases hao; done))
      split at hao <;> cases hao
    | makeMap t hint =>
      rw [ho] at hao;exfalso
      cases hint with
         | none=>simp [cOp] at hao
         | some y =>
           cases y with
           | const v=>cases v <;> simp only [cOp] at hao <;> first | (cases hao; done) | (split at hao <;> cases hao)
           | _=>simp [cOp] at hao
    | _ =>
      rw [ho] at hao;exfalso;simp only [cOp,cBin,cConv,cEq] at hao;repeat' split at hao
      all_goals first
        | (cases hao; done)
        | (rw [ae] at hao; obtain ⟨_,_,hao⟩:=hao; first | (cases hao; done) | (split at hao <;> cases hao))
  obtain ⟨c,hcop,hcc⟩:=hcop;unfold cCall at hcc;split at hcc
  · rename_i f hcal
    split at hcc;case h_1=>exfalso; cases hcc
    case h_3=>cases hcc
    rename_i aZ hgf has;rw [ae] at hcc;obtain ⟨k,hk,hcc⟩:=hcc;cases hcc;have hvs:evs s [x]=some [.int .i64 n]:=by unfold evs; rw [hx]; rfl
    have hargs:=ke k3 has hvs;unfold primOf at hk;split at hk;case h_2=>cases hk
    rename_i fn hfn;split at hk;case isFalse=>cases hk
    rename_i hbo;split at hk
    · cases hk
    split at hk
    · cases hk
    split at hk;case isFalse=>cases hk
    rename_i hnm;obtain ⟨hname,hrow⟩:=hnm;unfold isRow at hrow;split at hrow;case h_2=>cases hrow
    rename_i t ht;split at hrow;case h_2=>cases hrow
    rename_i e hte;simp only [a7,decide_eq_true_eq] at hrow
    have hrt:fn.resultTypes = #[t]:=by
      have h1:=hrow.2;apply Array.ext
      · simpa using h1
      · intro i h2 h3
        simp at h3;subst h3;rw [lj (by omega)] at ht;simpa using dr ht
    have hnn:(fn.name == "runtime.NumGoroutine")=false:=by rw [hname]; decide
    simp only [VRels,VRel] at hargs;obtain ⟨v1,vr,e1,hv1,hvr⟩:=hargs;subst hv1
    have hargs:c.args.map a.eval = #[.int .i64 n]:=by apply Array.ext';simp only [Array.toList_map];rw [e1,hvr]
    have hrun:(execOp a.eval o).run E.P w=(callFunc f (c.args.map a.eval)).run E.P w:=by simp [execOp,hcop,resolve,hcal,Act.eval,Deferred.ofValue,invoke]
    obtain ⟨cs,dl,q1,q2,q3,q4⟩:=run_mnz (P:=E.P) w fn.params t e hte n (by omega);have hmx:cs.size≤9223372036854775807:=q3 (by unfold maxLen; omega);have hcl:cs.size=dl.length:=by have:=congrArg List.length q4; simpa using this
    rw [hargs,run_callFunc_extern hfn hnn hbo.1 (mnz_next hname hbo.2) (mnz_find hname),hrt,q1] at hrun;have hlen:h.size=μ.length:=k2.len.symm
    have hdone:OpDone E lo ν.ds μ w a o.dst ((execOp a.eval o).run E.P w) (.val (.slice (some (h.size,0)) n none)) s (h.push (.cells 1 ((dl.take n).map fun b=>.int .u8 b.toNat))):=by
      rw [hlen];refine lw k3 k2 (fun y hy=>by rw [k4]; exact hd y hy) _ (.cells cs e) ⟨w.heap.size,0,cs.size,1⟩ rfl hrun rfl rfl rfl rfl ?_ (oc rfl q2 (fun k hk=>by cases hk) (by simp) hmx);refine ⟨⟨w.heap.size,0,cs.size,1⟩,cs,e,(0,0),by simp,rfl,by simp,rfl,by simp; omega,fun k v hk=>?_,fun _=>⟨aj _,fun off _=>by simp⟩⟩;simp only [bk,ae] at hk;obtain ⟨b,hb',rfl⟩:=hk;refine ⟨rfl,.int .u8 b.toNat,?_,by simp only [VRel]⟩
      have hb2:dl[k]? = some b:=by
        rw [fh] at hb';split at hb'
        · exact hb'
        · cases hb'
      rw [ed,← lr,q4,bk,hb2]; rfl
    obtain ⟨v,w1,μ',ν',d1,d2,d3,d4,d5⟩:=hdone;have hbl:(dl.take n).length=n:=by rw [dh]; omega
    have hev:=Evol.push h (.cells 1 ((dl.take n).map fun b=>.int .u8 b.toNat));have hgo:∀ a' w',At E lo nt μ0 w0 ds (a8 o.dst (.val (.slice (some (h.size,0)) n none)) s) (h.push (.cells 1 ((dl.take n).map fun b=>.int .u8 b.toNat))) a' w'→next a' w':=hn _ hbl hev
    rcases d2 with d2 | ⟨rfl,d2⟩
    · rw [d2,Oper.uponIn_value]
      refine hgo _ _ ⟨μ',ν',?_,d4,?_,by rw [np]; exact k4,by rw [ll,d1]; exact k5,cf k6 d3.size⟩
      · exact k1.trans d3 hev.wmin
      · rw [iu] at d5 ⊢
        exact d5.congr fun t=>je _ _ _ _
    · rw [d2] at hrun
      cases hrun
  · exfalso
    split at hcc;case h_2=>cases hcc
    cases hcc
  · exfalso
    repeat' split at hcc
    all_goals first
      | (cases hcc; done)
      | (rw [ae] at hcc; obtain ⟨_,_,hcc⟩:=hcc; cases hcc)
  · cases hcc
theorem opD_sound (hT:Agrees E T) (hm:E.P.follows .mixedOrders=true) {loc:Bool} {o:Oper} {o':AOper} {r:List AOper} {K:Slots→Heap→Prop} (hop:ky E nt ops loc o=some o') (hev:OpsD E T K (o' :: r) s h)
    (hat:At E lo nt μ0 w0 ds s h a w) {next:Act→World→Prop} (hn:∀ s1 h1,OpsD E T K r s1 h1→Evol h h1→∀ a' w',At E lo nt μ0 w0 ds s1 h1 a' w'→next a' w') :
    if Region.wanted o (yielded ops a.tmps) then o.wpIn (F0 none) 0 E.P a w next Q else next (a.put o.dst Go.undef) w:=by
  cases hev with
  | op e k =>
    obtain ⟨n,e⟩:=pi T e;exact pm (n8 hT hm n) (kw T n) hT.gid hop e hat (hn _ _ k (me (kw T n) e))
  | call h1 h2 h3 h4 h5=>exact run_soundD hT.gid hop h2 h1 h3 h4 hat fun v h' hR=>hn _ _ (h5 v h' hR)
  | callv h1 h2 h3 h4 h5 h6=>exact run_soundV hT.gid hop h2 h1 h3 h4 h5 hat fun v h' hR=>hn _ _ (h6 v h' hR)
  | noZero h1 h2 h3 h4 h5=>exact run_noZero hop h2 h1 h3 h4 hat fun bs hb=>hn _ _ (h5 bs hb)
theorem zbk (hT:Agrees E T) (hm:E.P.follows .mixedOrders=true) {locs:List Nat} {K:Slots→Heap→Prop} {h0:Heap} (hn:∀ s' h',K s' h'→Evol h0 h'→∀ a' w',At E lo nt μ0 w0 ds s' h' a' w'→Q .normal a' w'):∀ (l:List Oper) (i:Nat) (aZ:List AOper) (s:Slots) (h:Heap) (a:Act) (w:World),
    ops.toList.drop i=l→lq E nt ops locs i l=some aZ→OpsD E T K aZ s h→Evol h0 h→At E lo nt μ0 w0 ds s h a w→wpOpsIn (F0 none) 0 E.P ops Q (List.range' i l.length) a w
  | [],i,aZ,s,h,a,w,_,hcs,hev,h0,hat=>by
    simp only [lq] at hcs; cases hcs;cases hev with
    | done k=>exact hn _ _ k h0 _ _ hat
  | o :: l,i,aZ,s,h,a,w,hd,hcs,hev,h0,hat=>by
    simp only [lq] at hcs;split at hcs;case h_2=>cases hcs
    rename_i o' aZ' ho has;cases hcs
    have hi:ops[i]? = some o:=by have:=congrArg (fun l=>l[0]?) hd;simpa using this
    have hd':ops.toList.drop (i+1)=l:=by have:=congrArg List.tail hd;simpa using this
    simp only [bt,List.range'_succ,wpOpsIn,hi];have:=opD_sound (Q:=Q) hT hm ho hev hat fun s1 h1 k e a' w' hat'=>zbk hT hm hn l (i+1) aZ' s1 h1 a' w' hd' has k (h0.trans e) hat'
    split
    · rename_i hw; rw [if_pos hw] at this; exact this
    · rename_i hw; rw [if_neg hw] at this; exact ⟨fun _ _=>trivial,this⟩
theorem seqD_any (hT:Agrees E T) (hm:E.P.follows .mixedOrders=true) {locs:List Nat} {aZ:List AOper} (has:lq E nt ops locs 0 ops.toList=some aZ) (hb:edgesBack ops=true) {K:Slots→Heap→Prop} {h0:Heap} :
    ∀ (n p:Nat) (s:Slots) (h:Heap) (listed:Array Bool) (a:Act) (w:World),p+n≤aZ.length→(∀ x,x≤n→p+x < aZ.length→waits (befs ops.toList []) (p+x)=true) →
    OpsD E T K ((aZ.drop p).take n) s h→Evol h0 h→Exact ops listed p→At E lo nt μ0 w0 ds s h a w →
    (∀ s1 h1,K s1 h1→Evol h0 h1→∀ listed' a' w',Exact ops listed' (p+n)→At E lo nt μ0 w0 ds s1 h1 a' w'→wpAnyIn (F0 none) 0 E.P .any ops Q (ops.size - (p+n)) listed' a' w')→wpAnyIn (F0 none) 0 E.P .any ops Q (ops.size - p) listed a w
  | 0,p,s,h,listed,a,w,_,_,hev,h0,hex,hat,hk=>by
    rw [List.take_zero] at hev;cases hev with
    | done k=>exact hk _ _ k h0 listed a w hex hat
  | n+1,p,s,h,listed,a,w,hpn,hw,hev,h0,hex,hat,hk=>by
    obtain ⟨q1,q2⟩:=kx _ _ _ has;have hp:p < ops.size:=by rw [q1] at hpn; simp at hpn; omega
    have hop:ops[p]? = some ops[p]:=by simp [hp]
    obtain ⟨o',ho',hco⟩:=q2 p ops[p] (by simp [hp])
    have hdrop:aZ.drop p=o' :: aZ.drop (p+1):=by have hpl:=ah ho';rw [jw hpl];congr 1;rw [ai hpl] at ho';exact dr ho'
    rw [hdrop,ku] at hev;have hchain:=m7 (ops:=ops) ops.toList [] (by simp) (fun k i hk=>by simp at hk);have hblen:=li ops.toList [];have hsz:ops.size - p=(ops.size - (p+1))+1:=by omega
    rw [hsz];refine ⟨fun hr=>?_,fun i hi=>?_⟩
    · have h3:=pq hb hex.1 hr p hp
      rw [hex.2 p hp] at h3;simp at h3
    · obtain ⟨oi,k1,k2,k3⟩:=og hex.1 hi
      have his:i < ops.size:=ah (l:=ops.toList) (by simpa using k1)
      have hip:p≤i:=by have:=hex.2 i his;rw [k2] at this;simpa using this
      have hieq:p=i:=by
        rcases bi p i with h4 | h4
        · exfalso
          have hbit:=tg (hw 1 (by omega) (by rw [q1]; simp; omega)) (j:=i) (i:=p) (by rw [hblen]; simpa using his) (by omega) (by omega);have hl:=iz (hex.down hb) (hchain _ _ hbit) fun o e ho he hbb=>by rw [k1] at ho; cases ho; exact k3 e he hbb
          rw [hex.2 p hp] at hl;simp at hl
        · omega
      subst hieq;rw [hop] at k1; cases k1;refine vu hop (opD_sound hT hm hco hev hat fun s1 h1 k e a' w' hat'=>?_);have e1:p+1+n=p+(n+1):=by omega
      refine seqD_any hT hm has hb n (p+1) s1 h1 _ a' w' (by omega) (fun x hx hl=>?_) k (h0.trans e) hex.next hat' ?_
      · have:=hw (x+1) (by omega) (by omega)
        rwa [show p+1+x=p+(x+1) by omega]
      · rw [e1]; exact hk
end
theorem inv_region {nt:Nat} {hint:Hint} {code:Code} {gs:List Seg} (h:cj E nt false hint code=some (.region gs)):∃ segs locs id ops draw,code = .region id ops draw∧cRegion E nt segs locs ops draw=some gs:=by
  cases hint with
  | reg s l =>
    cases code <;> simp only [cj,ae,reduceCtorEq] at h
    obtain ⟨_,h1,h⟩:=h; cases h; exact ⟨_,_,_,_,_,rfl,h1⟩
  | next=>obtain ⟨d,y,r,e⟩:=l7 h; cases e
  | live l a=>simp only [cj,ae] at h; obtain ⟨_,_,h⟩:=h; cases h
  | after a l=>simp only [cj,ae] at h; obtain ⟨_,_,h⟩:=h; cases h
  | stuck=>simp only [cj] at h; cases h
  | leaf=>cases code <;> simp only [cj] at h <;> cases h
  | seq a b =>
    cases code <;> simp only [cj,reduceCtorEq] at h
    split at h <;> cases h
  | cond a b =>
    cases code <;> simp only [cj,reduceCtorEq] at h
    split at h <;> cases h
  | block a=>cases code <;> simp only [cj,ae,reduceCtorEq] at h; obtain ⟨_,_,h⟩:=h; cases h
  | loop a=>cases code <;> simp only [cj,ae,reduceCtorEq] at h; obtain ⟨_,_,h⟩:=h; cases h
  | rangeFunc g c a b =>
    cases code <;> simp only [cj,reduceCtorEq] at h
    split at h
    · split at h <;> cases h
    · cases h
theorem CodeD.region (hT:Agrees E T) (hm:E.P.follows .mixedOrders=true) {l:List AOper} {st:St} {Q:AExit→St→Prop} (hl:OpsD E T (fun s h=>Q .normal ⟨s,h⟩) l st.s st.h):CodeD E (.region [⟨false,[],l⟩]) st Q:=by
  intro nt hint code hcc hrd lo μ0 w0 ds a w Qm hat hn;obtain ⟨segs,locs,id,ops,draw,rfl,hcr⟩:=inv_region hcc;unfold cRegion at hcr;split at hcr;case h_2=>cases hcr
  rename_i aZ has;split at hcr
  · rename_i hd
    subst hd;split at hcr;case isFalse=>cases hcr
    rename_i hh;simp only [a7] at hh;apply wpIn_region_any hm
    have hat':At E lo nt μ0 w0 ds st.s st.h a { w with drawn:=w.drawn+1 }:=by obtain ⟨μ,ν,k1,k2,k3,k4,k5,k6⟩:=hat;exact ⟨μ,ν,k1.heap rfl rfl rfl rfl,k2.same rfl rfl rfl,k3.heap rfl,k4,k5,k6⟩
    obtain ⟨q1,_⟩:=kx _ _ _ has;simp only [gr] at q1;cases segs with
    | nil =>
      unfold splitSegs at hcr;split at hcr
      · cases hcr
      · cases hcr
      · rename_i e _; cases e
    | cons x r =>
      obtain ⟨q,n⟩:=x;simp only [splitSegs] at hcr;split at hcr;case isFalse=>cases hcr
      rw [ae] at hcr;obtain ⟨gs',hsp,he⟩:=hcr;injection he with he1 he2;injection he1 with e1 e2 e3;subst e1;subst he2;cases r with
      | cons x r =>
        obtain ⟨q',n'⟩:=x;simp only [splitSegs] at hsp;split at hsp
        · rw [ae] at hsp
          obtain ⟨_,_,he⟩:=hsp;cases he
        · cases hsp
      | nil =>
        have hok:=hh.2;simp only [segsOk,a7,decide_eq_true_eq,beq_iff_eq] at hok;obtain ⟨⟨a2,a3⟩,a5⟩:=hok;refine seqD_any (h0:=st.h) hT hm has hh.1 n 0 st.s st.h _ a _ (by omega) (fun x hx hlt=>?_) (by simpa [e3] using hl) (Evol.refl _) ⟨by simp,fun i hi=>by simp [hi]⟩ hat' fun s1 h1 k e listed' a' w' hex' hat''=>?_
        · rw [au] at a3
          exact a3 x (dw.2 (by omega))
        · have hp:0+n=ops.size:=by omega
          rw [hp,mw];rw [hp] at hex';refine ⟨?_,hn _ _ k e _ _ hat''⟩;apply List.eq_nil_iff_forall_not_mem.2;intro i hi;obtain ⟨o,k1,k2,_⟩:=og hex'.1 hi;have his:i < ops.size:=ah (l:=ops.toList) (by simpa using k1);rw [hex'.2 i his] at k2;simp [his] at k2
  · rename_i hd
    have:draw=false:=by simpa using hd
    subst this;cases hcr;apply wpIn_region;have:=zbk (Q:=Qm) (h0:=st.h) hT hm (fun s' h' k e a' w' hat'=>hn .normal ⟨s',h'⟩ k e a' w' hat') ops.toList 0 l st.s st.h a w rfl has hl (Evol.refl _) hat;rw [List.range_eq_range'];simpa using this
def IsCode (E:Env) (g:Nat) (af:AFunc):Prop:=∀ f,E.gid f=some g→∃ fn hint closed,E.P.funcs[f]? = some fn∧tq E closed hint fn=some af∧RndOK E af.body.rounds
theorem CallD.of_code {g:Nat} {af:AFunc} (hF:IsCode E g af) {args:List AVal} {h:Heap} {R:AVal→Heap→Prop} (hl:args.length=af.nargs)
    (hb:CodeD E af.body ⟨enter 0 args,{ h with wmin:=h.size }⟩ fun e st=>∃ v h',funcEnd af h (e,st)=some (v,h')∧R v h'):CallD E g args h R:=by
  intro f hgid μ w args' ha hr;obtain ⟨fn,hint,closed,hf,hcf,hrd⟩:=hF f hgid;unfold tq at hcf;split at hcf;case h_2=>cases hcf
  rename_i c hbody;split at hcf;case h_2=>cases hcf
  rename_i ac rs hac hrs;split at hcf;case isFalse=>cases hcf
  rename_i hsz;cases hcf;simp only at hl;have hal:args'.size=args.length:=by have:=ha.length; simp at this; exact this.symm
  have hat:At E w.heap.size fn.ntmps μ w [] (enter 0 args) { h with wmin:=h.size } { tmps:=args'++Array.replicate (fn.ntmps - args'.size) undef,defers:=[] } w:=by
    refine ⟨μ,⟨fun _=>0,[]⟩,Step.refl _ _ _ _,hr.same rfl rfl rfl,?_,?_,rfl,aj _⟩
    · have hval:∀ (t:Nat) (x:Slot),sget (enter 0 args) t=some x→∃ v,x = .val v∧args[t]? = some v:=fun t x hx=>by rw [ws] at hx;simp at hx;obtain ⟨v,h1,h2⟩:=hx;exact ⟨v,h2.symm,h1⟩
      constructor
      · intro t v hv
        obtain ⟨v1,e,h1⟩:=hval t _ hv;cases e;obtain ⟨v',h2,h3⟩:=ha.get h1;refine ⟨v',?_,h3⟩;have hlt:=ah h1;rw [r9 (by omega)];simpa using h2
      · intro t hx; obtain ⟨_,e,_⟩:=hval t _ hx; cases e
      · intro t cs hx; obtain ⟨_,e,_⟩:=hval t _ hx; cases e
      · intro t t' o cs hx; obtain ⟨_,e,_⟩:=hval t _ hx; cases e
      · intro t t' cs cs' _ hx; obtain ⟨_,e,_⟩:=hval t _ hx; cases e
      · intro t cs i m hx; obtain ⟨_,e,_⟩:=hval t _ hx; cases e
      · intro r hr; cases hr
      · intro r hr; cases hr
      · exact ⟨List.nodup_nil,hr.tab.1⟩
    · simp; omega
  refine callsIn_of_wp_marks hf hbody trivial ?_;refine hb fn.ntmps hint c hac hrd.of w.heap.size μ w [] _ w _ hat fun e st' hq hevol a' w' hat'=>?_
  obtain ⟨v,h',he,hR⟩:=hq;have hev2:Evol h h':=rn hevol he
  have key:((resultsL st'.s st'.h rs).map fun vs=>dk h (tupled vs) st'.h)=some (v,h')→LeavesInM (F0 none) 0 E.P fn a'.tmps (fun e w'=>∃ v h',R v h'∧Evol h h'∧Ends E μ w v h' e w') a'.defers .returning w':=by intro h2;rw [ae] at h2;obtain ⟨vs,h2,h3⟩:=h2;obtain ⟨μ1,ν1,k1,k2,k3,k4,k5,k6⟩:=hat';rw [k5,gq];refine qy hrs h2 (fun v' w2 r2 k1' k2'=>?_) ν1.ds ν1.v w' k1 k2 k3;obtain ⟨μ2,s1,s2,s3⟩:=qx rfl hr k1' k2' r2 hevol;rw [h3] at s1 s2 s3;exact ⟨v,h',hR,hev2,v',μ2,rfl,s1,s2,s3⟩
  cases e with
  | normal=>exact key he
  | ret=>exact key he
  | exit id=>simp [funcEnd] at he
theorem CallD.of_x (hT:Agrees E T) (hm:E.P.follows .mixedOrders=true) {g:Nat} {args:List AVal} {h h':Heap} {v:AVal} {R:AVal→Heap→Prop} (e:xCall T g args h=some (v,h')) (hR:R v h'):CallD E g args h R:=by intro f hf μ w args' ha hr;obtain ⟨n,hn⟩:=(kh T _ _ _ _).1 e;exact CallsIn.mono (F:=F0 none) (n:=0) ((n8 hT hm n).fn g args h v h' hn f hf μ w args' ha hr) fun e w' he=>⟨v,h',hR,kw T n _ _ _ _ _ hn,he⟩
theorem CallD.mono {g:Nat} {args:List AVal} {h:Heap} {R R':AVal→Heap→Prop} (hd:CallD E g args h R) (hR:∀ v h',R v h'→R' v h'):CallD E g args h R' :=
  fun f hf μ w args' ha hr=>CallsIn.mono (F:=F0 none) (n:=0) (hd f hf μ w args' ha hr) fun _ _ ⟨v,h',h1,h2,h3⟩=>⟨v,h',hR v h' h1,h2,h3⟩
theorem LibOK.of_calls {f g:Nat} {fn:Func} {F:List AVal→Heap→Option (AVal × List (Nat × AObj) × List AObj)} (hf:E.gid f=some g) (name:fn.name ≠ "runtime.NumGoroutine") (body:fn.body.isSome=true)
    (run:∀ args h v ps xs,F args h=some (v,ps,xs)→CallD E g args h fun v' h'=>v'=v∧h'=h.puts ps xs):LibOK E f fn F :=
  ⟨name,body,fun args h v ps xs e μ w args' ha hr=>by refine callsIn_wide.1 (CallsIn.mono (F:=F0 none) (n:=0) (run args h v ps xs e f hf μ w args' ha hr) fun e w' ⟨v',h',⟨e1,e2⟩,_,he⟩=>?_);rw [← e1,← e2];exact he⟩
end
end Go.Abs

namespace Go.Abs
def AgreesX (E:Env) (T:Nat→Option AFunc):Prop:=∃ T',(∀ g f,T g=some f→T' g=some f)∧Agrees E T'
section
variable {E:Env} {T:Nat→Option AFunc}
theorem Agrees.x (h:Agrees E T):AgreesX E T:=⟨T,fun _ _ h=>h,h⟩
theorem AgreesX.sub {T0:Nat→Option AFunc} (hs:∀ g f,T0 g=some f→T g=some f) (h:AgreesX E T):AgreesX E T0:=by obtain ⟨T',h1,h2⟩:=h;exact ⟨T',fun g f e=>h1 g f (hs g f e),h2⟩
theorem xCall_le {T':Nat→Option AFunc} (hs:∀ g f,T g=some f→T' g=some f):CallLe (xCall T) (xCall T'):=fun _ _ _ _ hr=>du hs hr
theorem OpsD.up {T':Nat→Option AFunc} (hs:∀ g f,T g=some f→T' g=some f) {K:Slots→Heap→Prop} {l:List AOper} {s:Slots} {h:Heap} (hl:OpsD E T K l s h):OpsD E T' K l s h:=by
 induction hl with
 | done k=>exact .done k
 | op e _ ih=>exact .op (lf (xCall_le hs) _ _ _ _ e) ih
 | call h1 h2 h3 h4 _ ih=>exact .call h1 h2 h3 h4 ih
 | callv h1 h2 h3 h4 h5 _ ih=>exact .callv h1 h2 h3 h4 h5 ih
 | noZero h1 h2 h3 h4 _ ih=>exact .noZero h1 h2 h3 h4 ih
theorem CodeD.regionX (hT:AgreesX E T) (hm:E.P.follows .mixedOrders=true) {l:List AOper} {st:St} {Q:AExit→St→Prop} (hl:OpsD E T (fun s h=>Q .normal ⟨s,h⟩) l st.s st.h):CodeD E (.region [⟨false,[],l⟩]) st Q:=by obtain ⟨T',hs,hT⟩:=hT;exact CodeD.region hT hm (hl.up hs)
theorem CallD.of_xX (hT:AgreesX E T) (hm:E.P.follows .mixedOrders=true) {g:Nat} {args:List AVal} {h h':Heap} {v:AVal} {R:AVal→Heap→Prop} (e:xCall T g args h=some (v,h')) (hR:R v h'):CallD E g args h R:=by obtain ⟨T',hs,hT⟩:=hT;exact CallD.of_x hT hm (du hs e) hR
theorem CodeD.of_xX (hT:AgreesX E T) (hm:E.P.follows .mixedOrders=true) {c:ACode} {st st':St} {e:AExit} {Q:AExit→St→Prop} (h:jb T c st=some (e,st')) (hq:Q e st'):CodeD E c st Q:=by obtain ⟨T',hs,hT⟩:=hT;obtain ⟨n,hn⟩:=(d0 T _ _ _).1 h;exact CodeD.of_x hT hm ((d0 T' _ _ _).2 ⟨n,j7 (ru hs n) (aj n) _ _ _ hn⟩) hq
theorem CodeD.of_kX (hT:AgreesX E T) (hm:E.P.follows .mixedOrders=true) {c:ACode} {st:St} {Q:AExit→St→Prop} (h:xK T c st (k:=⟨fun e st=>okIf (Q e st)⟩)=some ()):CodeD E c st Q:=by
 unfold xK at h;cases hx:jb T c st with
 | none=>rw [hx] at h; cases h
 | some p =>
  rw [hx] at h;exact CodeD.of_xX hT hm hx (okIf_iff.1 h)
theorem CodeD.of_wpX (hT:AgreesX E T) (hm:E.P.follows .mixedOrders=true) {c:ACode} {st:St} {Q:AExit→St→Prop} (h:Wp T c st Q):CodeD E c st Q:=by obtain ⟨T',hs,hT⟩:=hT;obtain ⟨n,l,h1,h2,h3⟩:=h;exact CodeD.of_wp hT hm ⟨n,l,wt (ru hs n) (aj n) _ _ _ h1,h2,h3⟩
end
end Go.Abs

namespace Go.Abs.AbsBlo
open Go.Abs.AbsBlb hiding T
open Go.Abs.Short
theorem CodeD.run {E:Env} {T:Nat→Option AFunc} (hT:AgreesX E T) (hm:E.P.follows .mixedOrders=true) {c:ACode} {st st':St} {e:AExit} {Q:AExit→St→Prop} (h:∀ k':AExit→St→Option Unit,xK T c st (k:=⟨k'⟩)=k' e st') (hq:Q e st'):CodeD E c st Q :=
 CodeD.of_kX hT hm (by rw [h]; exact okIf_iff.2 hq)
theorem OpsD.run {E:Env} {T:Nat→Option AFunc} {K:Slots→Heap→Prop} {l r:List AOper} {s s1:Slots} {h h1:Heap} (e:∀ k:Slots→Heap→Option (Slots × Heap),opsK (xCall T) l s h (k:=⟨k⟩)=k s1 h1) (hr:OpsD E T K r s1 h1):OpsD E T K (l++r) s h:=by
 refine OpsD.ops (s1:=s1) (h1:=h1) ?_ hr;have:=e fun s h=>some (s,h)
 unfold opsK at this;cases hx:evOps (xCall T) l s h with
 | none=>rw [hx] at this; cases this
 | some p=>rw [hx] at this; exact this
def keyC (k:Bs):List AVal:=[.str k]
theorem jt:∀ A:List Bs,A.flatMap keyC=A.map AVal.str
 | []=>rfl
 | a :: A=>by rw [fq,jt A]; rfl
theorem filt_lt {α:Type} {p p':α→Bool}:∀ {l:List α},(∀ x ∈ l,p' x=true→p x=true)→(∃ x ∈ l,p x=true∧p' x=false)→(l.filter p').length < (l.filter p).length
 | [],_,⟨x,hx,_⟩=>by cases hx
 | a :: l,h,⟨x,hx,h1,h2⟩=>by
  have hle:(l.filter p').length≤(l.filter p).length:=by
   have:∀ {l:List α},(∀ x ∈ l,p' x=true→p x=true)→(l.filter p').length≤(l.filter p).length:=by
    intro l;induction l with
    | nil=>intro _; simp
    | cons a l ih =>
     intro h;have ih:=ih fun x hx=>h x (bj _ hx)
     by_cases c:p' a=true
     ·rw [List.filter_cons_of_pos c,List.filter_cons_of_pos (h a (bg ..) c)]; simp; exact ih
     ·rw [List.filter_cons_of_neg c];by_cases d:p a=true
      ·rw [List.filter_cons_of_pos d]; simp; omega
      ·rw [List.filter_cons_of_neg d]; exact ih
   exact this fun x hx=>h x (bj _ hx)
  rcases dy.1 hx with rfl | hx
  ·rw [List.filter_cons_of_neg (by rw [h2]; decide),List.filter_cons_of_pos h1]; simp; omega
  ·have ih:=filt_lt (l:=l) (fun x hx=>h x (bj _ hx)) ⟨x,hx,h1,h2⟩;by_cases c:p' a=true
   ·rw [List.filter_cons_of_pos c,List.filter_cons_of_pos (h a (bg ..) c)]; simp; exact ih
   ·rw [List.filter_cons_of_neg c];by_cases d:p a=true
    ·rw [List.filter_cons_of_pos d]; simp; omega
    ·rw [List.filter_cons_of_neg d]; exact ih
theorem zbj:∀ {ix:List Ent} {e:Ent},(ix.map (·.2.2)).Nodup→e ∈ ix→(ix.map entV).find? (fun x=>x.2.2 == e.2.2)=some (entV e)
 | a :: ix,e,hn,he=>by
  rw [bo,ux] at hn;rw [bo];rcases dy.1 he with rfl | he
  ·rw [List.find?_cons_of_pos (by simp [entV])]
  ·rw [List.find?_cons_of_neg,zbj hn.2 he];have:a.2.2≠e.2.2:=fun h=>hn.1 (cq.2 ⟨e,he,h.symm⟩)
   simpa [entV] using this
theorem nodup_len {α:Type} [DecidableEq α]:∀ {l l':List α},l.Nodup→(∀ x ∈ l,x ∈ l')→l.length≤l'.length
 | [],_,_,_=>ge _
 | a :: l,l',hn,h=>by
  have hn:=ux.1 hn;have ih:=nodup_len (l':=l'.erase a) hn.2 fun x hx=>(List.mem_erase_of_ne (fun e=>by subst e; exact hn.1 hx)).2 (h x (bj _ hx))
  have ha:=h a (bg ..);rw [List.length_erase_of_mem ha] at ih;have:=List.length_pos_of_mem ha;rw [bt]; omega
section
variable {H:List AObj} {b w:Nat} {I:SI} {F:Fl} {K:StU}
end
end Go.Abs.AbsBlo

namespace Go.Abs.AbsNat
open Go.Abs.AbsBlb hiding T
open Go.Abs.Short
theorem subB:∀ g f,AbsBlb.T g=some f→T g=some f:=fun g f h=>sub g f (AbsBlo.sub g f h)
def isName (s:Bs):Bool:=!decide (s=[]) && (decide (s.length≤16) && decide (firstOdd s 0 < 0))
def preB (s:Bs):Bs:=[114,47]++s++[47]
def keyB (s k:Bs):Bs:=preB s++k
section
variable {H:List AObj} {b w:Nat}
section
attribute [-simp] getElem?_pos getElem?_neg List.all_eq_true
attribute [local simp] qZ qS nltT nltF iltT iltF ileT nleT el
theorem s687 {s:Bs} (h:s.length≤1000000):xCall T 687 [.str s] ⟨H,b,w⟩=some (.str (preB s),⟨H,b,w⟩):=by simp (disch:=omega) [bc t687,code687,preB]
theorem s683 {s k:Bs} (h:s.length≤1000000) (h':k.length≤1000000):xCall T 683 [.str s,.str k] ⟨H,b,w⟩=some (.str (keyB s k),⟨H,b,w⟩):=by
 have h687:=fun w=>s687 (H:=H) (b:=b) (w:=w) h
 have hl:(preB s).length≤1000003:=by unfold preB; simp; omega
 unfold keyB;generalize preB s=P at *;simp (disch:=omega) [bc t683,code683,h687]
end
theorem s544 {s:Bs}:xCall T 544 [.str s,.func 538 [] [],.bool true] ⟨H,b,w⟩=some (.int .i64 (firstOdd s 0),⟨H,b,w⟩):=by exact xLib_eq T t544 _ _ (F:=idxA)
section
attribute [-simp] getElem?_pos getElem?_neg List.all_eq_true
attribute [local simp] qZ qS nltT nltF iltT iltF ileT nleT el
theorem s537 {s:Bs}:xCall T 537 [.str s,.func 538 [] []] ⟨H,b,w⟩=some (.int .i64 (firstOdd s 0),⟨H,b,w⟩):=by
 have h544:=fun w=>s544 (H:=H) (b:=b) (w:=w) (s:=s)
 simp (disch:=omega) [bc t537,code537,h544]
theorem s520 {s:Bs} (h:s.length≤140737488355328):xCall T 520 [.str s] ⟨H,b,w⟩=some (.bool (isName s),⟨H,b,w⟩):=by
 have h537:=fun w=>s537 (H:=H) (b:=b) (w:=w) (s:=s)
 unfold isName;by_cases c0:s=[]
 ·subst c0;simp (disch:=omega) [bc t520,code520,h537]
 ·by_cases c1:s.length≤16
  ·by_cases c2:firstOdd s 0 < 0
   ·simp (disch:=omega) [bc t520,code520,h537,c0,c1,c2]
   ·simp (disch:=omega) [bc t520,code520,h537,c0,c1,c2]
  ·have c1':¬ ((s.length:Int)≤16):=by omega
   simp (disch:=omega) [bc t520,code520,h537,c0,c1,c1']
theorem s591 {x y:Nat}:xCall T 591 [.int .u32 x,.int .u32 y] ⟨H,b,w⟩=some (.int .i64 (if x < y then -1 else if y < x then 1 else 0),⟨H,b,w⟩):=by
 have h592:∀ (x:Nat) w,xCall AbsBlb.T 592 [.int .u32 x] ⟨H,b,w⟩=some (.bool false,⟨H,b,w⟩):=fun x w=>by simp (disch:=omega) [bc AbsBlb.t592,AbsBlb.code592]
 have key:xCall AbsBlb.T 591 [.int .u32 x,.int .u32 y] ⟨H,b,w⟩=some (.int .i64 (if x < y then -1 else if y < x then 1 else 0),⟨H,b,w⟩):=by
  by_cases c1:x < y
  ·have c2:¬ y < x:=by omega
   simp (disch:=omega) [bc AbsBlb.t591,AbsBlb.code591,h592,c1,c2]
  ·by_cases c2:y < x
   ·simp (disch:=omega) [bc AbsBlb.t591,AbsBlb.code591,h592,c1,c2]
   ·simp (disch:=omega) [bc AbsBlb.t591,AbsBlb.code591,h592,c1,c2]
 exact du subB key
end
end
end Go.Abs.AbsNat

namespace Go.Abs.AbsNat
open Go.Abs.AbsBlb hiding T
open Go.Abs.Short
structure EnU where
 id:Nat
 data:Bs
abbrev EV:=EnU × AVal
def EV.cells (p:EV):List AVal:=[.int .u32 p.1.id,p.2]
def EV.ok (H:List AObj) (p:EV):Prop:=BlobV H p.2 p.1.data
def rightL (next:Nat):Nat→List EnU→Bool
 | _,[]=>true
 | before,e :: L=>(decide (before < e.id) && decide (e.id < next) && decide (e.data.length≤512)) && rightL next e.id L
def rightR (next:Nat) (L:List EnU):Bool:=rightL next 0 L && (decide (L.length≤64) && decide (0 < next))
def entB (e:EnU):Bs:=putB e.id 4++putB e.data.length 2++e.data
def recsB (next ver:Nat) (L:List EnU):Bs:=putB next 4++putB ver 4++putB L.length 2++L.flatMap entB
section
variable {H:List AObj} {b w:Nat}
section
attribute [-simp] getElem?_pos getElem?_neg List.all_eq_true
attribute [local simp] qZ qS nltT nltF iltT iltF ileT nleT el
theorem l689 {L:List EV} {a:Option (Nat × Nat)} {c:Option Nat} {next ver:Nat} {y:AVal} (hR:Row H 2 EV.cells L a) (hn:L.length≤1000) (hok:∀ p ∈ L,EV.ok H p):∀ (j i w before:Nat),i+j=L.length→rightL next before ((L.drop i).map Prod.fst)=true→∀ {β:Type} (k:AExit→St→Option β),
  xK T (.loop code689L0) ⟨[(1,.var [.int .u32 next,.int .u32 ver,y]),(3,.val (.int .u32 before)),(7,.val (.slice a L.length c)),(8,.val (.int .i64 L.length)),(9,.val (.int .i64 i))],⟨H,b,w⟩⟩ (k:=⟨k⟩) =
   k (.exit 0) ⟨[(1,.var [.int .u32 next,.int .u32 ver,y])],⟨H,b,w⟩⟩
 | 0,i,w,before,hi,hr,β,k=>by rw [cd];simp (disch:=omega) [code689L0]
 | j+1,i,w,before,hi,hr,β,k=>by
  obtain ⟨x,hx⟩:∃ x,L[i]? = some x:=⟨_,ai (by omega)⟩;obtain ⟨bb,o,cs,rfl,hrow,hpart⟩:=hR.at' (js hx);obtain ⟨p1,p2⟩:=hpart i x hx;obtain ⟨xa,xc,xv,-,-⟩:=hok x (bn hx);have e2:((i+1:Nat):Int)=(i:Int)+1:=by omega
  rw [ie hx,bo] at hr;unfold rightL at hr;simp only [a7,decide_eq_true_eq] at hr;obtain ⟨⟨⟨r1,r2⟩,r3⟩,r4⟩:=hr;have ih:=l689 (c:=c) (ver:=ver) (y:=y) hR hn hok j (i+1) w x.1.id (by omega) r4 k;rw [e2] at ih;have hxc:EV.cells x=[.int .u32 x.1.id,.slice xa x.1.data.length xc]:=by unfold EV.cells; rw [xv]
  rw [hxc] at p2;rw [cd,← ih];have r1':¬ x.1.id≤before:=by omega
  have r2':¬ next≤x.1.id:=by omega
  have r3':¬ ((512:Int) < x.1.data.length):=by omega
  generalize ACode.loop code689L0=LL;generalize x.1.id=xi at *;generalize x.1.data.length=xn at *;simp (disch:=omega) [code689L0,hrow,p1,p2,r1',r2',r3']
theorem s689 {L:List EV} {a:Option (Nat × Nat)} {c:Option Nat} {next ver:Nat} (hR:Row H 2 EV.cells L a) (hok:∀ p ∈ L,EV.ok H p) (hr:rightR next (L.map Prod.fst)=true) :
  xCall T 689 [.agg [.int .u32 next,.int .u32 ver,.slice a L.length c]] ⟨H,b,w⟩=some (.bool true,⟨H,b,w⟩):=by
 unfold rightR at hr;simp only [a7,decide_eq_true_eq,bh] at hr;obtain ⟨r1,r2,r3⟩:=hr;have hl:=fun {β:Type} w (k:AExit→St→Option β)=>l689 (b:=b) (c:=c) (ver:=ver) (y:=.slice a L.length c) hR (by omega) hok L.length 0 w 0 (by omega) (by simpa using r1) k
 simp only [ba] at hl;have r2':(L.length:Int)≤64:=by omega
 simp (disch:=omega) [bc t689,code689,hl,r2,r2',r3]
end
end
end Go.Abs.AbsNat

namespace Go.Abs.AbsBlb
open Go.Abs.Short
section
variable {H:List AObj} {b w:Nat}
theorem flat_u8:∀ A:Bs,A.flatMap (fun c=>[u8V c])=A.map u8V
 | []=>rfl
 | a :: A=>by rw [fq,flat_u8 A]; rfl
section
attribute [-simp] getElem?_pos getElem?_neg List.all_eq_true
attribute [local simp] qZ qS nltT nltF iltT iltF ileT nleT el
theorem l385n {v k:Nat} (hbl:b≤H.length) (hk:k≤8) (hv:v < 18446744073709551616):∀ (j i w:Nat) (P:List AObj) (x:AVal),i+j=k→Pre H P→FRow H.length 1 (fun c=>[u8V c]) ((putB v k).take i) P x→H.length≤w →
  ∃ P' x' w',Pre H P'∧FRow H.length 1 (fun c=>[u8V c]) (putB v k) P' x'∧H.length≤w'∧∀ {β:Type} (k':AExit→St→Option β),
  xK T (.loop code100385L0) ⟨[(0,.val x),(1,.val (.int .u64 v)),(2,.val (.int .i64 k)),(18,.val (.int .i64 k)),(19,.val (.int .i64 i))],⟨P,b,w⟩⟩ (k:=⟨k'⟩) =
   k' (.exit 0) ⟨[(0,.val x')],⟨P',b,w'⟩⟩
 | 0,i,w,P,x,hi,hp,h,hw=>by
  obtain rfl:i=k:=by omega
  rw [ew (by rw [gb]; omega)] at h;refine ⟨P,x,w,hp,h,hw,fun k'=>?_⟩;rw [cd];simp (disch:=omega) [code100385L0]
 | j+1,i,w,P,x,hi,hp,h,hw=>by
  have hg:(putB v k)[i]? = some (byteB v k i):=by unfold putB;rw [bk,ai (by rw [kr]; omega),List.getElem_range]; rfl
  have ht:(putB v k).take (i+1)=(putB v k).take i++[byteB v k i]:=by rw [List.take_add_one,hg]; rfl
  have hln:((putB v k).take i).length≤8:=by rw [dh,gb]; omega
  obtain ⟨P1,x1,nx,f1,f2,f3,f4,f5⟩:=h.add (b:=b) (by':=1) (fun _=>rfl) hp.len hbl (by omega) (by omega) (byteB v k i);rw [← ht] at f1;have hp1:Pre H P1:=fun q o hq=>f2 q o (ah hq) (hp q o hq)
  obtain ⟨P2,x2,w2,i1,i2,i3,i4⟩:=l385n hbl hk hv j (i+1) (nx w) P1 x1 (by omega) hp1 f1 (by have:=(f4 w).2; omega);refine ⟨P2,x2,w2,i1,i2,i3,fun k'=>?_⟩;have e2:((i+1:Nat):Int)=(i:Int)+1:=by omega
  have ih:=i4 k';rw [e2] at ih;have hby:=byte_eq (v:=v) (i:=i) (by omega) hk;rw [cd,← ih];generalize ACode.loop code100385L0=LL;unfold u8V at f5;simp (disch:=omega) [code100385L0,-ex,l9,hby,f5]
theorem s385n {v k:Nat} (hbl:b≤H.length) (hk:0 < k∧k≤8) (hv:v < 18446744073709551616) :
  xCall T 100385 [.slice none 0 (some 0),.int .u64 v,.int .i64 k] ⟨H,b,w⟩=some (.slice (some (H.length,0)) k none,⟨H++[.cells 1 ((putB v k).map u8V)],b,w⟩):=by
 have h411:=fun w=>s411 (H:=H) (b:=b) (w:=w) (k:=(k:Int))
 have q1:(1:Int)≤k:=by omega
 have q2:(k:Int)≤8:=by omega
 obtain ⟨P,x,w',i1,i2,i3,i4⟩:=l385n hbl hk.2 hv k 0 H.length H (.slice none 0 (some 0)) (by omega) (Pre.refl _) (.inl ⟨by rw [List.take_zero],rfl⟩) (aj _);rcases i2 with ⟨e,-⟩ | ⟨-,q,hq,rfl,hr⟩
 ·have:=congrArg List.length e;rw [gb] at this; simp at this; omega
 ·rw [flat_u8] at hr;rw [gb] at i4;have hf:=fun w0=>oh (O:=H) (P:=P) (b:=b) (w:=w0) (W:=w') (q:=q) (n:=k) (c:=none) hr (lz _) (fun g=>mg g _) hq i3
  simp only [ba] at i4;generalize (putB v k).map u8V=Y at *;simp (disch:=omega) [bc t100385,code100385,-dk,h411,q1,q2,i4,hf]
end
end
end Go.Abs.AbsBlb
namespace Go.Abs.AbsNat
open Go.Abs.AbsBlb hiding T
open Go.Abs.Short
section
variable {H:List AObj} {b w:Nat}
section
attribute [-simp] getElem?_pos getElem?_neg List.all_eq_true
attribute [local simp] qZ qS nltT nltF iltT iltF ileT nleT el
theorem l688 {L:List EV} {a:Option (Nat × Nat)} {c:Option Nat} (hR:Row H 2 EV.cells L a) (hn:L.length≤64) (hok:∀ p ∈ L,EV.ok H p∧p.1.id < 4294967296∧p.1.data.length≤512) (hb:b≤H.length):∀ (j i w q n:Nat) (P:List AObj) (l:Bs),i+j=L.length→Pre H P→P[q]? = some (.cells 1 (l.map u8V))→l.length=n→0 < n→n≤100+i*600→H.length≤q→H.length≤w →
  ∃ P' q' w',Pre H P'∧P'[q']? = some (.cells 1 ((l++((L.drop i).map Prod.fst).flatMap entB).map u8V))∧H.length≤q'∧H.length≤w'∧∀ {β:Type} (k:AExit→St→Option β),
  xK T (.loop code688L0) ⟨[(4,.val (.slice (some (q,0)) n none)),(25,.val (.slice a L.length c)),(26,.val (.int .i64 L.length)),(27,.val (.int .i64 i))],⟨P,b,w⟩⟩ (k:=⟨k⟩) =
   k (.exit 0) ⟨[(4,.val (.slice (some (q',0)) (l++((L.drop i).map Prod.fst).flatMap entB).length none))],⟨P',b,w'⟩⟩
 | 0,i,w,q,n,P,l,hi,hp,hq,hl,h0,hs,h1,h2=>by
  have hd:L.drop i=[]:=co (by omega);refine ⟨P,q,w,hp,by rw [hd]; simpa using hq,h1,h2,fun k=>?_⟩;have e:(l++((L.drop i).map Prod.fst).flatMap entB).length=n:=by rw [hd]; simpa using hl
  rw [e,cd];simp (disch:=omega) [code688L0]
 | j+1,i,w,q,n,P,l,hi,hp,hq,hl,h0,hs,h1,h2=>by
  obtain ⟨x,hx⟩:∃ x,L[i]? = some x:=⟨_,ai (by omega)⟩;obtain ⟨bb,o,cs,rfl,hrow,hpart⟩:=hR.at' (js hx);obtain ⟨p1,p2⟩:=hpart i x hx;have hPr:P[bb]? = some (.cells 2 cs):=hp _ _ hrow;obtain ⟨hbv,k1,k2⟩:=hok x (bn hx);have hpl:=hp.len;have e2:((i+1:Nat):Int)=(i:Int)+1:=by omega
  have hql:=ah hq;have S0:SlB P q 0 n l:=SlB.whole hq hl;have a1:=fun w=>du subB (s385 (w:=w) (b:=b) (c:=none) (v:=x.1.id) (k:=4) S0 h0 (by omega) (by omega) (by omega) (by omega) (aj _))
  have S1:SlB (P++[.cells 1 ((l++putB x.1.id 4).map u8V)]) P.length 0 (n+4) (l++putB x.1.id 4):=SlB.whole (ga _ _) (by rw [aq,gb]; omega);have a2:=fun w=>du subB (s385 (w:=w) (b:=b) (c:=none) (v:=x.1.data.length) (k:=2) S1 (by omega) (by omega) (by rw [aq]; omega) (by omega) (by omega) (aj _))
  have hp2:Pre H (P++[.cells 1 ((l++putB x.1.id 4).map u8V),.cells 1 ((l++putB x.1.id 4++putB x.1.data.length 2).map u8V)]):=hp.trans (Pre.app _ _);have hbv2:BlobV (P++[.cells 1 ((l++putB x.1.id 4).map u8V),.cells 1 ((l++putB x.1.id 4++putB x.1.data.length 2).map u8V)]) x.2 x.1.data:=hbv.mono hp2.len fun _ _ _ _ _ y hy=>hp2 _ _ hy
  obtain ⟨q',P',nx,b1,b2,b3,b4,-,b5⟩:=app_row (k:=x.1.data) (b:=b) (y:=x.2) (n:=n+6) (q:=P.length+1) hp2 (kj P _ 1) (by rw [aq,aq,gb,gb]; omega) (by omega) (by omega) hb (by omega) (fun w=>hbv2.row) hbv2.len
  have hlen:(l++putB x.1.id 4++putB x.1.data.length 2++x.1.data).length=n+6+x.1.data.length:=by simp only [aq,gb,hl]
  obtain ⟨P3,q3,w3,i1,i2,i3,i4,i5⟩:=l688 (c:=c) hR hn hok hb j (i+1) (nx w) q' (n+6+x.1.data.length) P' _ (by omega) b1 b2 hlen (by omega) (by omega) b3 (b4 w h2)
  have e3:l++putB x.1.id 4++putB x.1.data.length 2++x.1.data++((L.drop (i+1)).map Prod.fst).flatMap entB=l++((L.drop i).map Prod.fst).flatMap entB:=by rw [ie hx,bo,fq];unfold entB;simp only [az]
  rw [e3] at i2;refine ⟨P3,q3,w3,i1,i2,i3,i4,fun k=>?_⟩;have ih:=i5 k;rw [e3,e2] at ih;obtain ⟨xa,xc,xv,xid,-⟩:=hbv;have hxc:EV.cells x=[.int .u32 x.1.id,x.2]:=rfl;rw [hxc] at p2;rw [cd,← ih];have w1:IntKind.u64.wrap (x.1.id:Int)=x.1.id:=l9 (by omega);have w2:IntKind.u64.wrap (x.1.data.length:Int)=x.1.data.length:=l9 (by omega);simp only [aq,bt,ep,ed,Nat.reduceAdd,az,d7,ff,ba] at a1 a2 b5;rw [xv] at p2 b5;generalize ACode.loop code688L0=LL;generalize AObj.cells 1 ((l++(putB x.1.id 4++putB x.1.data.length 2)).map u8V)=o2 at *;generalize AObj.cells 1 ((l++putB x.1.id 4).map u8V)=o1 at *;generalize x.1.id=xi at *;generalize x.1.data.length=xn at *;rcases xa with _ | ⟨xp,xo⟩
  ·simp (disch:=omega) [code688L0,-ex,hPr,p1,p2,w1,w2,a1,a2,b5,-fj,jf,jg,gu,bz]
  ·have hxp:=fg (xid xp xo rfl) hpl;simp (disch:=omega) [code688L0,-ex,hPr,p1,p2,w1,w2,a1,a2,b5,hxp,-fj,jf,jg,gu,bz]
end
theorem xb {next:Nat}:∀ {L:List EnU} {before:Nat},rightL next before L=true→∀ e ∈ L,e.id < next∧e.data.length≤512
 | [],_,_,e,he=>by cases he
 | a :: L,before,h,e,he=>by
  unfold rightL at h;simp only [a7,decide_eq_true_eq] at h;rcases dy.1 he with rfl | he
  ·exact ⟨h.1.1.2,h.1.2⟩
  ·exact xb h.2 e he
section
attribute [-simp] getElem?_pos getElem?_neg List.all_eq_true
attribute [local simp] qZ qS nltT nltF iltT iltF ileT nleT el
theorem s688 {L:List EV} {a:Option (Nat × Nat)} {c:Option Nat} {next ver:Nat} (hR:Row H 2 EV.cells L a) (hok:∀ p ∈ L,EV.ok H p) (hr:rightR next (L.map Prod.fst)=true) (hnx:next < 4294967296) (hvr:ver < 4294967296) (ha:∀ p o,a=some (p,o)→p < H.length) (hb:b≤H.length) :
  xCall T 688 [.agg [.int .u32 next,.int .u32 ver,.slice a L.length c]] ⟨H,b,w⟩=some (.tuple [.slice (some (H.length,0)) (recsB next ver (L.map Prod.fst)).length none,.int .i64 0],⟨H++[.cells 1 ((recsB next ver (L.map Prod.fst)).map u8V)],b,w⟩):=by
 have h689:=fun w=>s689 (b:=b) (w:=w) (c:=c) (ver:=ver) hR hok hr
 have hr2:=hr;unfold rightR at hr2;simp only [a7,decide_eq_true_eq,bh] at hr2;obtain ⟨r1,r2,r3⟩:=hr2
 have hok2:∀ p ∈ L,EV.ok H p∧p.1.id < 4294967296∧p.1.data.length≤512:=fun p hp=>by have:=xb r1 p.1 (ml hp);exact ⟨hok p hp,by omega,this.2⟩
 have a1:=fun w=>du subB (s385n (H:=H) (b:=b) (w:=w) (v:=next) (k:=4) hb (by omega) (by omega))
 have S1:SlB (H++[.cells 1 ((putB next 4).map u8V)]) H.length 0 4 (putB next 4):=SlB.whole (ga _ _) (gb _ _);have a2:=fun w=>du subB (s385 (w:=w) (b:=b) (c:=none) (v:=ver) (k:=4) S1 (by omega) (by omega) (by rw [aq]; omega) (by omega) (by omega) (aj _))
 have S2:SlB (H++[.cells 1 ((putB next 4).map u8V),.cells 1 ((putB next 4++putB ver 4).map u8V)]) (H.length+1) 0 8 (putB next 4++putB ver 4):=SlB.whole (kj H _ 1) (by rw [aq,gb,gb]);have a3:=fun w=>du subB (s385 (w:=w) (b:=b) (c:=none) (v:=L.length) (k:=2) S2 (by omega) (by omega) (by rw [aq]; omega) (by omega) (by omega) (aj _))
 obtain ⟨P,q,w',i1,i2,i3,i4,i5⟩:=l688 (b:=b) (c:=c) hR r2 hok2 hb L.length 0 H.length (H.length+2) 10 (H++[.cells 1 ((putB next 4).map u8V),.cells 1 ((putB next 4++putB ver 4).map u8V),.cells 1 ((putB next 4++putB ver 4++putB L.length 2).map u8V)]) (putB next 4++putB ver 4++putB L.length 2) (by omega) (Pre.app _ _) (kj H _ 2) (by simp [gb]) (by omega) (by omega) (by omega) (aj _)
 have e:putB next 4++putB ver 4++putB L.length 2++((L.drop 0).map Prod.fst).flatMap entB=recsB next ver (L.map Prod.fst):=by unfold recsB;rw [eq,bh]
 rw [e] at i2 i5;have hf:=fun w0=>za6 (k:=.i64) (x:=0) (O:=H) (P:=P) (b:=b) (w:=w0) (W:=w') (q:=q) (n:=(recsB next ver (L.map Prod.fst)).length) (c:=none) i2 (lz _) (fun g=>mg g _) i3 i4
 have w1:IntKind.u64.wrap (next:Int)=next:=l9 (by omega)
 have w2:IntKind.u64.wrap (ver:Int)=ver:=l9 (by omega);have w3:IntKind.u64.wrap (L.length:Int)=L.length:=l9 (by omega);simp only [aq,bt,ep,ed,Nat.reduceAdd,az,d7,ff,ba] at a1 a2 a3 i5;generalize (recsB next ver (L.map Prod.fst)).length=N at *;generalize (recsB next ver (L.map Prod.fst)).map u8V=Y at *;generalize AObj.cells 1 ((putB next 4++(putB ver 4++putB L.length 2)).map u8V)=o3 at *;generalize AObj.cells 1 ((putB next 4++putB ver 4).map u8V)=o2 at *;generalize AObj.cells 1 ((putB next 4).map u8V)=o1 at *;rcases a with _ | ⟨xp,xo⟩
 ·simp (disch:=omega) [bc t688,code688,-dk,h689,a1,a2,a3,w1,w2,w3,i5,hf,-fj,jf,jg,gu,bz]
 ·have hxp:=ha xp xo rfl;simp (disch:=omega) [bc t688,code688,-dk,h689,a1,a2,a3,w1,w2,w3,i5,hf,hxp,-fj,jf,jg,gu,bz]
end
end
end Go.Abs.AbsNat

namespace Go.Abs.AbsNat
open Go.Abs.AbsBlb hiding T
open Go.Abs.Short
section
variable {H:List AObj} {b:Nat}
theorem getB_u32 {l:Bs} {k:Nat} (hk:k≤4):getB (l.take k) < 4294967296:=by
 have h:=zi (l.take k) 0 0 (by decide);have h2:0+(l.take k).length≤4:=by rw [dh]; omega
 exact fg h (cf (Nat.pow_le_pow_right (by decide) h2) (by decide))
section
attribute [-simp] getElem?_pos getElem?_neg List.all_eq_true
attribute [local simp] qZ qS nltT nltF iltT iltF ileT nleT el
theorem p690 {p o n q k:Nat} {l:Bs} (hq:H[q]? = some (.cells 2 [.slice (some (p,o)) n none,.bool false])) (hl:SlB H p o n l) (hn:n≤1000000) (hk:0 < k∧k≤4) (hkn:k≤n) (hpq:p≠q) (hb:b≤q) (w:Nat) :
  xCall T 690 [.ptr (some (q,0)),.int .i64 k] ⟨H,b,w⟩=some (.int .u32 (getB (l.take k):Nat),⟨H.set q (.cells 2 [.slice (some (p,o+k)) (n - k) none,.bool false]),b,min w q⟩):=by
 have h500:=fun w=>du subB (s500 (H:=H) (b:=b) (w:=w) (a:=0) (k:=k) (c:=none) hl (aj _) (by omega) (by omega) (by omega))
 have hu:=getB_u32 (l:=l) hk.2;rw [eq] at h500;have hql:=ah hq;have hset:∀ x,(H.set q x)[q]? = some x:=fun x=>by rw [eg hql]
 have hwu:IntKind.u32.wrap (getB (l.take k):Int)=getB (l.take k):=by unfold IntKind.wrap;show (if (false && _)=true then _ else (_ % 2 ^ 32))=_;simp; omega
 generalize getB (l.take k)=v at *;simp only [ba] at h500;obtain ⟨-,X,hp,-⟩:=hl;have hps:∀ x,(H.set q x)[p]? = some (.cells 1 X):=fun x=>by rw [av (fun e=>hpq e.symm)]; exact hp
 simp (disch:=omega) [bc t690,code690,hq,h500,hset,hwu,hp,hps]
theorem p691 {p o n q k:Nat} {l:Bs} (hq:H[q]? = some (.cells 2 [.slice (some (p,o)) n none,.bool false])) (hl:SlB H p o n l) (hn:n≤1000000) (hkn:k≤n) (hpq:p≠q) (hb:b≤q) :
  ∃ c',k≤(c':Option Nat).getD k∧∀ w,xCall T 691 [.ptr (some (q,0)),.int .i64 k] ⟨H,b,w⟩=some (.slice (some (H.length,0)) k c',⟨H.set q (.cells 2 [.slice (some (p,o+k)) (n - k) none,.bool false])++[.cells 1 ((l.take k).map u8V)],b,min w q⟩):=by
 have hql:=ah hq;have hset:∀ x,(H.set q x)[q]? = some x:=fun x=>by rw [eg hql]
 have hself:H.set q (.cells 2 [.slice (some (p,o)) n none,.bool false])=H:=by
  refine jh fun j=>?_
  by_cases e:q=j
  ·subst e; rw [hset,hq]
  ·rw [av e]
 have hlk:(l.take k).length=k:=by rw [dh,hl.1]; omega
 have hs:SlB H p o k (l.take k):=by obtain ⟨hll,X,hp,hX⟩:=hl;refine ⟨hlk,X,hp,?_⟩;rw [uw,← hX,List.take_take,Nat.min_eq_left (by omega)]
 obtain ⟨-,X,hp,hX⟩:=id hl;have hbv:BlobV H (.slice (some (p,o)) k none) (l.take k):=⟨some (p,o),none,by rw [hlk],fun p' o' e=>by cases e; exact ah hp,.inr ⟨p,o,rfl,by rw [hlk]; exact hs,by simp⟩⟩;obtain ⟨c',h1,h2⟩:=p465 (b:=b) hbv rfl (by omega);rw [hlk] at h1 h2;have h1:=fun w=>du subB (h1 w)
 refine ⟨c',h2,fun w=>?_⟩;have hps:∀ x,(H.set q x)[p]? = some (.cells 1 X):=fun x=>by rw [av (fun e=>hpq e.symm)]; exact hp
 have hkn':¬ (n:Int) < k:=by omega
 have hq2:∀ y,(H++[AObj.cells 1 y])[q]? = some (.cells 2 [.slice (some (p,o)) n none,.bool false]):=fun y=>by rw [ag hql]; exact hq
 have hp2:∀ y,(H++[AObj.cells 1 y])[p]? = some (.cells 1 X):=fun y=>by rw [ag (ah hp)]; exact hp
 have hset2:∀ y x,(H++[AObj.cells 1 y]).set q x=H.set q x++[AObj.cells 1 y]:=fun y x=>oq _ _ hql
 generalize (l.take k).map u8V=Y at *;simp (disch:=omega) [bc t691,code691,hq,hself,h1,hset,hp,hps,hkn',hq2,hp2,hset2]
end
end
end Go.Abs.AbsNat

namespace Go.Abs.AbsNat
open Go.Abs.AbsBlb hiding T
open Go.Abs.Short
def EV.new (N:Nat) (P:List AObj) (p:EV):Prop:=BlobV P p.2 p.1.data∧∀ q o n k,p.2 = .slice (some (q,o)) n k→N≤q∧∃ X,P[q]? = some (.cells 1 X)
theorem EV.new.mono {N:Nat} {P P':List AObj} {p:EV} (h:p.new N P) (hl:P.length≤P'.length) (hk:∀ (k:Nat) (X:List AVal),N≤k→P[k]? = some (.cells 1 X)→P'[k]? = some (.cells 1 X)):p.new N P':=by
 obtain ⟨h1,h2⟩:=h;refine ⟨h1.mono hl fun q o n k e x hx=>?_,fun q o n k e=>?_⟩
 ·obtain ⟨h5,X,h6⟩:=h2 q o n k e;rw [h6] at hx;cases hx;exact hk _ _ h5 h6
 ·obtain ⟨h5,X,h6⟩:=h2 q o n k e;exact ⟨h5,X,hk _ _ h5 h6⟩
theorem SlB.drop {H:List AObj} {p o n k:Nat} {l:Bs} (h:SlB H p o n l) (hk:k≤n):SlB H p (o+k) (n - k) (l.drop k):=by obtain ⟨hll,X,hp,hX⟩:=h;refine ⟨by rw [gg]; omega,X,hp,?_⟩;rw [List.map_drop,← hX,List.drop_take,iq]
theorem ent_len (e:EnU):(entB e).length=6+e.data.length:=by unfold entB; simp [gb]; omega
theorem ent_id {e:EnU} (h:e.id < 4294967296) (r:Bs):getB ((entB e++r).take 4)=e.id:=by
 have:(entB e++r).take 4=putB e.id 4:=by unfold entB;rw [az,az,uy (gb _ _)]
 rw [this,ov];exact lx h
theorem ent_n {e:EnU} (h:e.data.length < 65536) (r:Bs):getB (((entB e++r).drop 4).take 2)=e.data.length:=by
 have:((entB e++r).drop 4).take 2=putB e.data.length 2:=by unfold entB;rw [az,az,qd (gb _ _),uy (gb _ _)]
 rw [this,ov];exact lx h
theorem ent_data (e:EnU) (r:Bs):(((entB e++r).drop 4).drop 2).take e.data.length=e.data:=by rw [iq];unfold entB;rw [az,qd (by simp [gb]),uy rfl]
theorem ent_rest (e:EnU) (r:Bs):(((entB e++r).drop 4).drop 2).drop e.data.length=r:=by rw [iq,iq,qd (by rw [ent_len]; omega)]
section
variable {H:List AObj} {b:Nat}
section
attribute [-simp] getElem?_pos getElem?_neg List.all_eq_true
attribute [local simp] qZ qS nltT nltF iltT iltF ileT nleT el
theorem l682 {next ver q:Nat} {z:List AVal} (hq0:q=H.length) (hb:b≤H.length):∀ (R:List EnU) (w p o m:Nat) (P:List AObj) (A:List EV) (x:AVal),(∀ e ∈ R,e.id < 4294967296∧e.data.length≤512)→A.length+R.length≤64→Pre H P→p < q→P[q]? = some (.cells 2 [.slice (some (p,o)) m none,.bool false])→SlB P p o m (R.flatMap entB)→m≤1000000→FRow (q+1) 2 EV.cells A P x→(∀ y ∈ A,y.new (q+1) P)→H.length≤w →
  ∃ (P':List AObj) (A':List EV) (x':AVal) (o' w':Nat),Pre H P'∧P'[q]? = some (.cells 2 [.slice (some (p,o')) 0 none,.bool false])∧FRow (q+1) 2 EV.cells (A++A') P' x'∧A'.map Prod.fst=R∧(∀ y ∈ A++A',y.new (q+1) P')∧H.length≤w'∧∀ {β:Type} (k:AExit→St→Option β),
  xK T (.loop code682L0) ⟨[(2,.var z),(4,.val (.ptr (some (q,0)))),(5,.var [.int .u32 next,.int .u32 ver,x]),(6,.val (.int .u32 R.length))],⟨P,b,w⟩⟩ (k:=⟨k⟩) =
   k (.exit 0) ⟨[(2,.var z),(4,.val (.ptr (some (q,0)))),(5,.var [.int .u32 next,.int .u32 ver,x'])],⟨P',b,w'⟩⟩
 | [],w,p,o,m,P,A,x,hR,hA,hp,hpq,hr,hS,hm,hx,hn,hw=>by
  have hm0:m=0:=by rw [← hS.1]; rfl
  subst hm0;refine ⟨P,[],x,o,w,hp,hr,by rw [gq]; exact hx,rfl,by rw [gq]; exact hn,hw,fun k=>?_⟩;rw [cd];simp (disch:=omega) [code682L0,hr]
 | e :: R,w,p,o,m,P,A,x,hR,hA,hp,hpq,hr,hS,hm,hx,hn,hw=>by
  obtain ⟨he1,he2⟩:=hR e (bg ..);rw [fq] at hS;rw [bt] at hA;have hlen:m=6+e.data.length+(R.flatMap entB).length:=by rw [← hS.1,aq,ent_len]
  have hql:=ah hr;have hpl:=hp.len;have hne:p≠q:=by omega
  have a1:=p690 (b:=b) (k:=4) hr hS hm (by omega) (by omega) hne (by omega);rw [ent_id he1] at a1;have r1:=jr hr (y:=.cells 2 [.slice (some (p,o+4)) (m - 4) none,.bool false]);have keep:∀ x,p≠q→(P.set q x)[p]? = P[p]?:=fun x h=>av (fun e=>h e.symm)
  have S1:=(SlB.drop hS (show 4≤m by omega)).mono (H':=P.set q (.cells 2 [.slice (some (p,o+4)) (m - 4) none,.bool false])) fun y hy=>by rw [keep _ hne]; exact hy
  have a2:=p690 (b:=b) (k:=2) r1 S1 (by omega) (by omega) (by omega) hne (by omega);rw [ent_n (by omega)] at a2;have hss:∀ x y,(P.set q x).set q y=P.set q y:=fun x y=>List.set_set ..
  rw [hss] at a2;have e2:m - 4 - 2=m - 6:=by omega
  have e3:o+4+2=o+6:=by omega
  rw [e2,e3] at a2;have r2:=jr hr (y:=.cells 2 [.slice (some (p,o+6)) (m - 6) none,.bool false]);have S2:=(SlB.drop (SlB.drop hS (show 4≤m by omega)) (show 2≤m - 4 by omega)).mono (H':=P.set q (.cells 2 [.slice (some (p,o+6)) (m - 6) none,.bool false])) fun y hy=>by rw [keep _ hne]; exact hy
  rw [e2,e3] at S2;obtain ⟨c',c1,a3⟩:=p691 (b:=b) (k:=e.data.length) r2 S2 (by omega) (by omega) hne (by omega);rw [ent_data,hss,bf] at a3;have e4:m - 6 - e.data.length=(R.flatMap entB).length:=by omega
  rw [e4] at a3;have r3:=jr hr (y:=.cells 2 [.slice (some (p,o+6+e.data.length)) (R.flatMap entB).length none,.bool false]);have S3:=(SlB.drop (SlB.drop (SlB.drop hS (show 4≤m by omega)) (show 2≤m - 4 by omega)) (show e.data.length≤m - 4 - 2 by omega));rw [ent_rest,e2,e3,e4] at S3;generalize hP3:P.set q (.cells 2 [.slice (some (p,o+6+e.data.length)) (R.flatMap entB).length none,.bool false])=P2 at *;have hl2:P2.length=P.length:=by rw [← hP3,bf]
  have up:∀ (k:Nat) (y:AObj),k≠q→P[k]? = some y→(P2++[AObj.cells 1 (e.data.map u8V)])[k]? = some y:=fun k y hk hy=>by rw [ag (by rw [hl2]; exact ah hy),← hP3,av (fun e=>hk e.symm)]; exact hy
  have r4:(P2++[AObj.cells 1 (e.data.map u8V)])[q]? = some (.cells 2 [.slice (some (p,o+6+e.data.length)) (R.flatMap entB).length none,.bool false]):=by rw [ag (by rw [hl2]; exact hql)]; exact r3
  have hg:(P2++[AObj.cells 1 (e.data.map u8V)])[P.length]? = some (.cells 1 (e.data.map u8V)):=by rw [← hl2]; exact ga _ _
  have hl3:(P2++[AObj.cells 1 (e.data.map u8V)]).length=P.length+1:=by rw [aq,hl2]; rfl
  have hvn:EV.new (q+1) (P2++[AObj.cells 1 (e.data.map u8V)]) (e,.slice (some (P.length,0)) e.data.length c'):=by
   refine ⟨⟨some (P.length,0),c',rfl,fun p o e=>?_,.inr ⟨P.length,0,rfl,SlB.whole hg rfl,c1⟩⟩,fun q o n k e=>?_⟩
   ·simp only [eu,jn] at e;rw [← e.1]; exact ah hg
   ·simp only [AVal.slice.injEq,eu,jn] at e;rw [← e.1.1];exact ⟨hql,_,hg⟩
  have fr3:=hx.mono fun k y hk hy=>up k y (by omega) hy
  generalize hP4:P2++[AObj.cells 1 (e.data.map u8V)]=P4 at *;obtain ⟨P5,x5,n5,f1,f2,f3,f4,f5⟩:=fr3.add' (b:=b) (by':=32) (fun _=>rfl) (by omega) (by omega) (by omega) (by omega) (e,.slice (some (P.length,0)) e.data.length c')
  have hnew:∀ y ∈ A++[(e,.slice (some (P.length,0)) e.data.length c')],EV.new (q+1) P5 y:=fun y hy=>by
   rcases bw.1 hy with h4 | h4
   ·exact (hn y h4).mono (by omega) fun k X hk ho=>f2 _ _ (up _ _ (by omega) ho) fun _ cs e=>by simp at e
   ·rw [bq.1 h4];exact hvn.mono (by omega) fun k X hk ho=>f2 _ _ ho fun _ cs e=>by simp at e
  have hpre5:Pre H P5:=fun k y hy=>f2 _ _ (up k y (by have:=ah hy; omega) (hp _ _ hy)) fun h=>by have:=ah hy; omega
  have r5:=f2 _ _ r4 fun h=>by omega
  have S5:SlB P5 p (o+6+e.data.length) (R.flatMap entB).length (R.flatMap entB):=S3.mono fun y hy=>f2 _ _ (up _ _ hne hy) fun h=>by omega
  obtain ⟨P',A',x',o',w',i1,i2,i3,i4,i5,i6,i7⟩:=l682 (next:=next) (ver:=ver) (z:=z) hq0 hb R (n5 (min (min (min w q) q) q)) p _ _ P5 _ x5 (fun y hy=>hR y (bj _ hy)) (by rw [aq]; simp; omega) hpre5 hpq r5 S5 (by omega) f1 hnew (by have:=(f4 (min (min (min w q) q) q)).2; omega);refine ⟨P',(e,.slice (some (P.length,0)) e.data.length c') :: A',x',o',w',i1,i2,by rw [az] at i3; exact i3,by rw [bo,i4],fun y hy=>i5 y (by rw [az]; exact hy),i6,fun k=>?_⟩;have ih:=i7 k;rw [cd,← ih];generalize ACode.loop code682L0=LL;have e5:((e :: R).length:Int)=(R.length:Int)+1:=by simp
  rw [e5]
  have hw1:IntKind.u32.wrap (R.length:Int)=R.length:=by unfold IntKind.wrap;show (if (false && _)=true then _ else (_ % 2 ^ 32))=_;simp; omega
  unfold EV.cells at f5;rw [hl3] at f5;simp only [ba] at a1 a2;generalize (R.flatMap entB).length=rl at *;generalize e.data.length=dl at *;generalize e.data.map u8V=Y at *;generalize e.id=ei at *;have hwi:IntKind.i64.wrap (dl:Int)=dl:=el (by omega);simp only at f5;have hg5:∀ y,(P4++[y])[P.length+1]? = some y:=fun y=>by rw [← hl3]; exact ga _ _
  obtain ⟨a5,m5,c5,rfl⟩:∃ a n c,x5 = .slice a n c:=by
   rcases f1 with ⟨h,-⟩ | ⟨-,q5,-,h,-⟩
   ·simp at h
   ·exact ⟨_,_,_,h⟩
  rcases hx with ⟨-,rfl⟩ | ⟨-,qq,-,rfl,hqq⟩
  ·simp (disch:=omega) [code682L0,-ex,-fj,jf,jg,gu,bz,hr,a1,a2,a3,f5,hwi,hl3,hg5,hw1]
  ·have hqq:=ah hqq;simp (disch:=omega) [code682L0,-ex,-fj,jf,jg,gu,bz,hr,a1,a2,a3,f5,hwi,hqq,hl3,hg5,hw1]
end
end
theorem FRow.row {α:Type} {N e:Nat} {f:α→List AVal} {A:List α} {P:List AObj} {x:AVal} (hf:∀ y,(f y).length=e) (h:FRow N e f A P x):∃ a c,x = .slice a A.length c∧Row P e f A a∧(∀ p o,a=some (p,o)→N≤p∧p < P.length):=by
 rcases h with ⟨rfl,rfl⟩ | ⟨h0,q,h1,rfl,h2⟩
 ·exact ⟨none,some 0,rfl,⟨fun h=>absurd rfl h⟩,fun p o e=>by cases e⟩
 ·exact ⟨some (q,0),none,rfl,Row.mk0 hf h2,fun p o e=>by cases e; exact ⟨h1,ah h2⟩⟩
def EV.mv (f:Nat→Nat) (p:EV):EV:=(p.1,p.2.ren f)
theorem EV.mv_flat (f:Nat→Nat) (A:List EV):AVal.renL f (A.flatMap EV.cells)=(A.map (EV.mv f)).flatMap EV.cells:=by
 have key:∀ p,AVal.renL f (EV.cells p)=EV.cells (EV.mv f p):=fun p=>by simp [EV.cells,EV.mv,AVal.renL,AVal.ren]
 induction A with
 | nil=>rfl
 | cons p A ih =>
  rw [fq,bo,fq,← ih,← key,mt,mt,mt,ic]
theorem zaw {O P:List AObj} {b w' N:Nat} {A:List EV} {x:AVal} (mk:AVal→AVal) (h1:∀ y,(mk y).ids=y.ids) (h2:∀ f y,(mk y).ren f=mk (y.ren f)) (h3:∀ n p o k c,(mk (.slice (some (p,o)) k c)).under n=decide (p < n)) (h4:∀ n,(mk (.slice none 0 (some 0))).under n=true)
  (hN:O.length≤N) (hx:FRow N 2 EV.cells A P x) (hA:∀ p ∈ A,p.new N P) (hp:Pre O P) (hw:O.length≤w') :
  ∃ H' A' x',Pre O H'∧FRow O.length 2 EV.cells A' H' x'∧A'.map Prod.fst=A.map Prod.fst∧(∀ p ∈ A',p.new O.length H')∧∀ w,dk ⟨O,b,w⟩ (mk x) ⟨P,b,w'⟩=(mk x',⟨H',b,w⟩):=by
 have hA0:∀ p ∈ A,p.new O.length P:=fun p hp=>⟨(hA p hp).1,fun q o n k e=>⟨cf hN ((hA p hp).2 q o n k e).1,((hA p hp).2 q o n k e).2⟩⟩
 rcases hx with ⟨h,rfl⟩ | ⟨hne,q,hq,rfl,hr⟩
 ·subst h;refine ⟨O,[],_,Pre.refl _,.inl ⟨rfl,rfl⟩,rfl,(fun p hp=>by cases hp),fun w=>?_⟩;unfold dk;have e1:¬ (⟨P,b,w'⟩:Heap).wmin < (⟨O,b,w⟩:Heap).size:=by show ¬ w' < O.length; omega
  rw [if_neg e1];exact if_pos (h4 _)
 ·have hqO:O.length≤q:=cf hN hq;have hv:(mk (.slice (some (q,0)) A.length none)).under O.length=false:=by rw [h3]; exact decide_eq_false (by omega)
  rcases ur (b:=b) (P:=P) hv hw with e | ⟨f,I,X,e,hm,hi⟩
  ·exact ⟨P,A,_,hp,.inr ⟨hne,q,hqO,rfl,hr⟩,rfl,hA0,e⟩
  ·have hIq:I q:=hi q (by rw [h1]; simp [AVal.ids]) hqO;have hcl:=hm.cl q _ hIq hr
   have hIp:∀ p ∈ A,∀ i o k c,p.2 = .slice (some (i,o)) k c→I i∧∃ X,P[i]? = some (.cells 1 X):=fun p hpA i o k c e=>by obtain ⟨g1,g2⟩:=(hA0 p hpA).2 i o k c e;refine ⟨hcl i ?_ g1,g2⟩;show i ∈ AVal.idsL _;rw [qr,dz];refine ⟨p.2,dz.2 ⟨p,hpA,?_⟩,by rw [e]; simp [AVal.ids]⟩;simp [EV.cells]
   refine ⟨O++X,A.map (EV.mv f),.slice (some (f q,0)) A.length none,fun k o hk=>by rw [ag (ah hk)]; exact hk,.inr ⟨by simpa using hne,f q,hm.up q hqO,by rw [bh],?_⟩,?_,?_,fun w=>?_⟩
   ·have:=hm.at' q _ hIq hr;rw [this,← EV.mv_flat]; rfl
   ·rw [List.map_map]; rfl
   ·intro p' hp';obtain ⟨p,hpA,rfl⟩:=cq.1 hp';refine ⟨(hA0 p hpA).1.moves hm (hIp p hpA),fun i o k c e=>?_⟩;obtain ⟨r,v⟩:=p;obtain ⟨⟨a,d,hv',-,-⟩,-⟩:=hA0 _ hpA;simp only at hv';subst hv';have e:(AVal.slice a r.data.length d).ren f = .slice (some (i,o)) k c:=e;rw [ren_sl] at e;cases a with
    | none=>simp [renA] at e
    | some y =>
     obtain ⟨y1,y2⟩:=y;simp only [renA,AVal.slice.injEq,eu,jn] at e;obtain ⟨g1,X',g2⟩:=hIp _ hpA y1 y2 _ _ rfl;obtain ⟨g3,-⟩:=(hA0 _ hpA).2 y1 y2 _ _ rfl;rw [← e.1.1];exact ⟨hm.up _ g3,_,hm.at' _ _ g1 g2⟩
   ·rw [e w,h2]; simp [AVal.ren]
end Go.Abs.AbsNat

namespace Go.Abs.AbsNat
open Go.Abs.AbsBlb hiding T
open Go.Abs.Short
def Ents (N:Nat) (H:List AObj) (A:List EV) (x:AVal):Prop:=FRow N 2 EV.cells A H x∧∀ p ∈ A,p.new N H
theorem Ents.row {N:Nat} {H:List AObj} {A:List EV} {x:AVal} (h:Ents N H A x):∃ a c,x = .slice a A.length c∧Row H 2 EV.cells A a∧(∀ p o,a=some (p,o)→N≤p∧p < H.length)∧∀ p ∈ A,EV.ok H p:=by obtain ⟨a,c,h1,h2,h3⟩:=FRow.row (f:=EV.cells) (fun _=>rfl) h.1;exact ⟨a,c,h1,h2,h3,fun p hp=>(h.2 p hp).1⟩
section
variable {H:List AObj} {b:Nat}
theorem recs_len (next ver:Nat) (L:List EnU):(recsB next ver L).length=10+(L.flatMap entB).length:=by unfold recsB; simp only [aq,gb]
theorem p682 {next ver p o n:Nat} {L:List EnU} (hr:rightR next L=true) (hnx:next < 4294967296) (hvr:ver < 4294967296) (hS:SlB H p o n (recsB next ver L)) (hn:n≤1000000) (hb:b≤H.length) :
  ∃ H' A x,Pre H H'∧Ents H.length H' A x∧A.map Prod.fst=L∧∀ w,xCall T 682 [.slice (some (p,o)) n none] ⟨H,b,w⟩=some (.tuple [.agg [.int .u32 next,.int .u32 ver,x],.int .i64 0],⟨H',b,w⟩):=by
 have hr2:=hr;unfold rightR at hr2;simp only [a7,decide_eq_true_eq] at hr2;obtain ⟨r1,r2,r3⟩:=hr2;have hpl:p < H.length:=by obtain ⟨-,X,hp,-⟩:=hS; exact ah hp
 have hne:p≠H.length:=by omega
 have hln:n=10+(L.flatMap entB).length:=by rw [← hS.1,recs_len]
 have q0:(H++[AObj.cells 2 [.slice (some (p,o)) n none,.bool false]])[H.length]? = some (.cells 2 [.slice (some (p,o)) n none,.bool false]):=ga _ _;have S0:SlB (H++[AObj.cells 2 [.slice (some (p,o)) n none,.bool false]]) p o n (recsB next ver L):=hS.mono fun y hy=>by rw [ag (ah hy)]; exact hy
 have hset:∀ x y,(H++[x]).set H.length y=H++[y]:=fun x y=>by rw [qv _ _ (aj _),mw]; rfl
 have a1:=p690 (b:=b) (k:=4) q0 S0 hn (by omega) (by omega) hne hb
 have g1:getB ((recsB next ver L).take 4)=next:=by
  have:(recsB next ver L).take 4=putB next 4:=by unfold recsB;rw [az,az,uy (gb _ _)]
  rw [this,ov]; exact lx hnx
 rw [g1,hset] at a1;have q1:(H++[AObj.cells 2 [.slice (some (p,o+4)) (n - 4) none,.bool false]])[H.length]? = some (.cells 2 [.slice (some (p,o+4)) (n - 4) none,.bool false]):=ga _ _;have S1:SlB (H++[AObj.cells 2 [.slice (some (p,o+4)) (n - 4) none,.bool false]]) p (o+4) (n - 4) ((recsB next ver L).drop 4):=(SlB.drop hS (by omega)).mono fun y hy=>by rw [ag (ah hy)]; exact hy
 have a2:=p690 (b:=b) (k:=4) q1 S1 (by omega) (by omega) (by omega) hne hb
 have g2:getB (((recsB next ver L).drop 4).take 4)=ver:=by
  have:((recsB next ver L).drop 4).take 4=putB ver 4:=by unfold recsB;rw [az,az,qd (gb _ _),uy (gb _ _)]
  rw [this,ov]; exact lx hvr
 rw [g2,hset] at a2;have e1:n - 4 - 4=n - 8:=by omega
 have e2:o+4+4=o+8:=by omega
 rw [e1,e2] at a2;have q2:(H++[AObj.cells 2 [.slice (some (p,o+8)) (n - 8) none,.bool false]])[H.length]? = some (.cells 2 [.slice (some (p,o+8)) (n - 8) none,.bool false]):=ga _ _
 have S2:SlB (H++[AObj.cells 2 [.slice (some (p,o+8)) (n - 8) none,.bool false]]) p (o+8) (n - 8) (((recsB next ver L).drop 4).drop 4):=by
  have:=(SlB.drop (SlB.drop hS (show 4≤n by omega)) (show 4≤n - 4 by omega)).mono (H':=H++[AObj.cells 2 [.slice (some (p,o+8)) (n - 8) none,.bool false]]) fun y hy=>by rw [ag (ah hy)]; exact hy
  rw [e1,e2] at this; exact this
 have a3:=p690 (b:=b) (k:=2) q2 S2 (by omega) (by omega) (by omega) hne hb
 have g3:getB ((((recsB next ver L).drop 4).drop 4).take 2)=L.length:=by
  have:(((recsB next ver L).drop 4).drop 4).take 2=putB L.length 2:=by unfold recsB;rw [az,az,qd (gb _ _),qd (gb _ _),uy (gb _ _)]
  rw [this,ov]; exact lx (by omega)
 rw [g3,hset] at a3;have e3:n - 8 - 2=(L.flatMap entB).length:=by omega
 have e4:o+8+2=o+10:=by omega
 rw [e3,e4] at a3
 have S3:SlB (H++[AObj.cells 2 [.slice (some (p,o+10)) (L.flatMap entB).length none,.bool false]]) p (o+10) (L.flatMap entB).length (L.flatMap entB):=by
  have:=(SlB.drop hS (show 10≤n by omega)).mono (H':=H++[AObj.cells 2 [.slice (some (p,o+10)) (L.flatMap entB).length none,.bool false]]) fun y hy=>by rw [ag (ah hy)]; exact hy
  have e5:n - 10=(L.flatMap entB).length:=by omega
  have e6:(recsB next ver L).drop 10=L.flatMap entB:=by unfold recsB;rw [qd (by simp [gb])]
  rw [e5,e6] at this; exact this
 have hid:∀ e ∈ L,e.id < 4294967296∧e.data.length≤512:=fun e he=>by have:=xb r1 e he; omega
 obtain ⟨P,A,x,o',w',i1,i2,i3,i4,i5,i6,i7⟩:=l682 (next:=next) (ver:=ver) (z:=[.int .u32 0,.int .u32 0,.slice none 0 (some 0)]) (q:=H.length) rfl hb L H.length p (o+10) (L.flatMap entB).length _ [] (.slice none 0 (some 0)) hid (by simpa using r2) (Pre.app _ _) hpl (ga H _) S3 (by omega) (.inl ⟨rfl,rfl⟩) (fun y hy=>by cases hy) (aj _);rw [ff] at i3 i5;obtain ⟨a,c,rfl,j2,j3⟩:=FRow.row (f:=EV.cells) (fun _=>rfl) i3;have h689:=fun w=>s689 (b:=b) (w:=w) (c:=c) (ver:=ver) (next:=next) j2 (fun p hp=>(i5 p hp).1) (by rw [i4]; exact hr)
 obtain ⟨H',A',x',k1,k2,k3,k4,k5⟩:=zaw (b:=b) (fun y=>.tuple [.agg [.int .u32 next,.int .u32 ver,y],.int .i64 0]) (fun y=>by simp [AVal.ids,AVal.idsL]) (fun f y=>by simp [AVal.ren,AVal.renL]) (fun n p o k c=>by simp [AVal.under,AVal.unders]) (fun n=>by simp [AVal.under,AVal.unders]) (show H.length≤H.length+1 by omega) i3 i5 i1 i6;refine ⟨H',A',x',k1,⟨k2,k4⟩,by rw [k3,i4],fun w=>?_⟩;simp only [ba] at a1 a2 a3
 have wn:IntKind.u32.wrap (L.length:Int)=L.length:=by unfold IntKind.wrap;show (if (false && _)=true then _ else (_ % 2 ^ 32))=_;simp; omega
 generalize (L.flatMap entB).length=rl at *;simp (disch:=omega) [-getElem?_pos,-getElem?_neg,-List.all_eq_true,qZ,qS,nltT,nltF,iltT,iltF,ileT,nleT,el,bc t682,code682,-dk,a1,a2,a3,i7,i2,h689,k5]
end
end Go.Abs.AbsNat

namespace Go.Abs.AbsNat
open Go.Abs.AbsBlb hiding T
open Go.Abs.Short
def At (L:List EnU) (id k:Nat):Prop:=k≤L.length∧(∀ (j:Nat) (e:EnU),L[j]? = some e→(j < k ↔ e.id < id))
def isAt (L:List EnU) (id k:Nat):Bool:=match L[k]? with | some e=>decide (e.id=id) | none=>false
theorem rightL_lt {next:Nat}:∀ {L:List EnU} {before:Nat},rightL next before L=true→∀ (j:Nat) (e:EnU),L[j]? = some e→before < e.id
 | [],_,_,j,e,he=>by simp at he
 | a :: L,before,h,j,e,he=>by
  unfold rightL at h;simp only [a7,decide_eq_true_eq] at h;cases j with
  | zero=>simp at he; subst he; exact h.1.1.1
  | succ j =>
   have:=rightL_lt h.2 j e (by simpa using he);have:=h.1.1.1;omega
theorem qb {next:Nat}:∀ {L:List EnU} {before:Nat},rightL next before L=true→∀ (i j:Nat) (x y:EnU),i < j→L[i]? = some x→L[j]? = some y→x.id < y.id
 | [],_,_,i,j,x,y,_,hx,_=>by simp at hx
 | a :: L,before,h,i,j,x,y,hij,hx,hy=>by
  unfold rightL at h;simp only [a7,decide_eq_true_eq] at h;cases j with
  | zero=>omega
  | succ j =>
   have hy':L[j]? = some y:=by simpa using hy
   cases i with
   | zero=>simp at hx; subst hx; exact rightL_lt h.2 j y hy'
   | succ i=>exact qb h.2 i j x y (by omega) (by simpa using hx) hy'
section
variable {H:List AObj} {b:Nat}
section
attribute [-simp] getElem?_pos getElem?_neg List.all_eq_true
attribute [local simp] qZ qS nltT nltF iltT iltF ileT nleT el
theorem s685 {x y w:Nat} {v:AVal}:xCall T 685 [.agg [.int .u32 x,v],.int .u32 y] ⟨H,b,w⟩=some (.int .i64 (if x < y then -1 else if y < x then 1 else 0),⟨H,b,w⟩):=by
 have h591:=fun w=>s591 (H:=H) (b:=b) (w:=w) (x:=x) (y:=y)
 generalize (if x < y then -1 else if y < x then 1 else 0:Int)=r at *;simp (disch:=omega) [bc t685,code685,h591]
theorem l684 {L:List EV} {a:Option (Nat × Nat)} {c:Option Nat} {id:Nat} (hR:Row H 2 EV.cells L a) (hn:L.length≤1000) (hs:∀ (i j:Nat) (x y:EV),i < j→L[i]? = some x→L[j]? = some y→x.1.id < y.1.id):∀ (d i j w:Nat),j - i≤d→i≤j→j≤L.length→(∀ (t:Nat) (e:EV),t < i→L[t]? = some e→e.1.id < id)→(∀ (t:Nat) (e:EV),j≤t→L[t]? = some e→id≤e.1.id) →
  ∃ k,k≤L.length∧(∀ (t:Nat) (e:EV),L[t]? = some e→(t < k ↔ e.1.id < id))∧∀ {β:Type} (k':AExit→St→Option β),
  xK T (.loop code684L0) ⟨[(0,.val (.slice a L.length c)),(1,.val (.int .u32 id)),(2,.val (.func 685 [] [])),(8,.val (.int .i64 L.length)),(9,.val (.int .i64 i)),(10,.val (.int .i64 j))],⟨H,b,w⟩⟩ (k:=⟨k'⟩) =
   k' (.exit 0) ⟨[(0,.val (.slice a L.length c)),(1,.val (.int .u32 id)),(2,.val (.func 685 [] [])),(8,.val (.int .i64 L.length)),(9,.val (.int .i64 k))],⟨H,b,w⟩⟩:=by
 intro d;induction d with
 | zero =>
  intro i j w hd hij hj h1 h2;obtain rfl:i=j:=by omega
  refine ⟨i,hj,fun t e he=>⟨fun h=>h1 t e h he,fun h=>?_⟩,fun k'=>?_⟩
  ·rcases bi t i with q | q
   ·exact q
   ·have:=h2 t e q he; omega
  ·rw [cd];simp (disch:=omega) [code684L0]
 | succ d ih =>
  intro i j w hd hij hj h1 h2;by_cases c0:i < j
  ·have hm:(i+j) / 2 < j∧i≤(i+j) / 2:=by omega
   obtain ⟨x,hx⟩:∃ x,L[(i+j) / 2]? = some x:=⟨_,ai (by omega)⟩;obtain ⟨bb,o,cs,rfl,hrow,hpart⟩:=hR.at' (js hx);obtain ⟨p1,p2⟩:=hpart _ x hx;have hxc:EV.cells x=[.int .u32 x.1.id,x.2]:=rfl;rw [hxc] at p2
   have hfd:((i:Int)+(j:Int)).fdiv (2 ^ min 1 IntKind.u64.bits)=(((i+j) / 2:Nat):Int):=by
    show ((i:Int)+(j:Int)).fdiv 2=_
    rw [Int.fdiv_eq_ediv_of_nonneg _ (by omega)]; omega
   have hwu:IntKind.u64.wrap ((i:Int)+(j:Int))=(i:Int)+j:=l9 (by omega);have hwi:IntKind.i64.wrap (((i+j) / 2:Nat):Int)=(((i+j) / 2:Nat):Int):=el (by omega);have h685:=fun w=>s685 (H:=H) (b:=b) (w:=w) (x:=x.1.id) (y:=id) (v:=x.2)
   by_cases c1:x.1.id < id
   ·obtain ⟨k,k1,k2,k3⟩:=ih ((i+j) / 2+1) j w (by omega) (by omega) hj (fun t e ht he=>by
     rcases bi t ((i+j) / 2) with q | q
     ·exact Nat.lt_trans (hs _ _ _ _ q he hx) c1
     ·obtain rfl:t=(i+j) / 2:=by omega
      rw [hx] at he; cases he; exact c1) h2
    refine ⟨k,k1,k2,fun k'=>?_⟩;rw [cd,← k3 k'];have e2:(((i+j) / 2+1:Nat):Int)=(((i+j) / 2:Nat):Int)+1:=by omega
    rw [e2];rw [if_pos c1] at h685;generalize (i+j) / 2=m at *;generalize ACode.loop code684L0=LL;simp (disch:=omega) [code684L0,hrow,p1,p2,h685,hfd,hwu,hwi,c0]
   ·obtain ⟨k,k1,k2,k3⟩:=ih i ((i+j) / 2) w (by omega) (by omega) (by omega) h1 (fun t e ht he=>by
     rcases bi ((i+j) / 2) t with q | q
     ·have:=hs _ _ _ _ q hx he; omega
     ·obtain rfl:t=(i+j) / 2:=by omega
      rw [hx] at he; cases he; omega)
    refine ⟨k,k1,k2,fun k'=>?_⟩;rw [cd,← k3 k'];rw [if_neg c1] at h685;have hnn:¬ ((if id < x.1.id then 1 else 0:Int) < 0):=by split <;> omega
    generalize (if id < x.1.id then 1 else 0:Int)=r at *;generalize (i+j) / 2=m at *;generalize ACode.loop code684L0=LL;simp (disch:=omega) [code684L0,hrow,p1,p2,h685,hfd,hwu,hwi,c0,hnn]
  ·exact ih i j w (by omega) hij hj h1 h2
theorem s674 {L:List EV} {a:Option (Nat × Nat)} {c:Option Nat} {id:Nat} {y1 y2:AVal} (hR:Row H 2 EV.cells L a) (hn:L.length≤1000) (hs:∀ (i j:Nat) (x y:EV),i < j→L[i]? = some x→L[j]? = some y→x.1.id < y.1.id) :
  ∃ k,At (L.map Prod.fst) id k∧∀ w,xCall T 674 [.agg [y1,y2,.slice a L.length c],.int .u32 id] ⟨H,b,w⟩=some (.tuple [.int .i64 k,.bool (isAt (L.map Prod.fst) id k)],⟨H,b,w⟩):=by
 obtain ⟨k,k1,k2,-⟩:=l684 (b:=b) (c:=c) (id:=id) hR hn hs L.length 0 L.length 0 (by omega) (by omega) (aj _) (fun t e h=>by omega) (fun t e h he=>by have:=ah he; omega)
 have uniq:∀ k',k'≤L.length→(∀ (t:Nat) (e:EV),L[t]? = some e→(t < k' ↔ e.1.id < id))→k'=k:=fun k' h1 h2=>by
  rcases zc k' k with q | q | q
  ·obtain ⟨x,hx⟩:∃ x,L[k']? = some x:=⟨_,ai (by omega)⟩;have:=(h2 _ _ hx).2 ((k2 _ _ hx).1 q); omega
  ·exact q
  ·obtain ⟨x,hx⟩:∃ x,L[k]? = some x:=⟨_,ai (by omega)⟩;have:=(k2 _ _ hx).2 ((h2 _ _ hx).1 q); omega
 have hl:∀ {β:Type} w (k':AExit→St→Option β),xK T (.loop code684L0) ⟨[(0,.val (.slice a L.length c)),(1,.val (.int .u32 id)),(2,.val (.func 685 [] [])),(8,.val (.int .i64 L.length)),(9,.val (.int .i64 0)),(10,.val (.int .i64 L.length))],⟨H,b,w⟩⟩ (k:=⟨k'⟩) =
   k' (.exit 0) ⟨[(0,.val (.slice a L.length c)),(1,.val (.int .u32 id)),(2,.val (.func 685 [] [])),(8,.val (.int .i64 L.length)),(9,.val (.int .i64 k))],⟨H,b,w⟩⟩:=fun w k'=>by
  obtain ⟨kk,h1,h2,h3⟩:=l684 (b:=b) (c:=c) (id:=id) hR hn hs L.length 0 L.length w (by omega) (by omega) (aj _) (fun t e h=>by omega) (fun t e h he=>by have:=ah he; omega);rw [uniq kk h1 h2] at h3;have:=h3 k';simpa using this
 refine ⟨k,⟨by rw [bh]; exact k1,fun j e he=>?_⟩,fun w=>?_⟩
 ·rw [bk,ae] at he;obtain ⟨x,hx,rfl⟩:=he;exact k2 j x hx
 ·have h684:∀ w,xCall T 684 [.slice a L.length c,.int .u32 id,.func 685 [] []] ⟨H,b,w⟩=some (.tuple [.int .i64 k,.bool (isAt (L.map Prod.fst) id k)],⟨H,b,w⟩):=fun w=>by
   unfold isAt;rw [bk];by_cases ck:k < L.length
   ·obtain ⟨x,hx⟩:∃ x,L[k]? = some x:=⟨_,ai ck⟩;obtain ⟨bb,o,cs,rfl,hrow,hpart⟩:=hR.at' (js hx);obtain ⟨p1,p2⟩:=hpart _ x hx;have hxc:EV.cells x=[.int .u32 x.1.id,x.2]:=rfl;rw [hxc] at p2;have hge:¬ x.1.id < id:=fun h=>by have:=(k2 _ _ hx).2 h; omega
    have h685:=fun w=>s685 (H:=H) (b:=b) (w:=w) (x:=x.1.id) (y:=id) (v:=x.2)
    rw [if_neg hge] at h685
    have hd:decide ((if id < x.1.id then 1 else 0:Int)=0)=decide (x.1.id=id):=by
     by_cases e:x.1.id=id
     ·have:¬ id < x.1.id:=by omega
      simp [e]
     ·have:id < x.1.id:=by omega
      simp [this,e]
    rw [hx];simp only [b9,← hd];generalize (if id < x.1.id then 1 else 0:Int)=r at *;simp (disch:=omega) [bc t684,code684,hl,hrow,p1,p2,h685,ck]
   ·rw [bv (by omega)];simp only [Option.map_none];simp (disch:=omega) [bc t684,code684,hl,ck]
  simp (disch:=omega) [bc t674,code674,h684]
end
end
end Go.Abs.AbsNat

namespace Go.Abs.AbsNat
open Go.Abs.AbsBlb hiding T
open Go.Abs.Short
structure RecsU where
 next:Nat
 ver:Nat
 list:List EnU
def RecsU.bytes (r:RecsU):Bs:=recsB r.next r.ver r.list
def RecsU.val (r:RecsU) (x:AVal):AVal:=.agg [.int .u32 r.next,.int .u32 r.ver,x]
structure RecsU.ok (r:RecsU):Prop where
 rr:rightR r.next r.list=true
 nn:r.next < 4294967296
 vv:r.ver < 4294967296
theorem g9 {s:Bs} (h:isName s=true):s.length≤16:=by unfold isName at h;simp only [a7,decide_eq_true_eq] at h;exact h.2.1
def EntsEnd (H:List AObj) (b:Nat) (L:List EnU) (g:Nat) (args:List AVal) (mk:AVal→AVal):Prop :=
 ∃ H' A x,Pre H H'∧Ents H.length H' A x∧A.map Prod.fst=L∧∀ w,xCall T g args ⟨H,b,w⟩=some (mk x,⟨H',b,w⟩)
section
variable {H:List AObj} {b w:Nat} {I:SI} {F:Fl} {K:StU}
section
attribute [-simp] getElem?_pos getElem?_neg List.all_eq_true
attribute [local simp] qZ qS nltT nltF iltT iltF ileT nleT el
theorem p675 (h:StA H I F K) {s k:Bs} {r:RecsU} (hs:isName s=true) (hk:isName k=true) {x:Nat × PlU} (hf:findK (keyB s k) K.ix=some x) (hx:x.2.blob=r.bytes) (hr:r.ok) (hl:x.2.blob.length≤1000000) (hb:b≤H.length) :
  EntsEnd H b r.list 675 [.ptr (some (I.s,0)),.str s,.str k] fun x=>.tuple [r.val x,.int .i64 0]:=by
 have ls:=g9 hs;have lk:=g9 hk;have h1:=fun w=>s520 (H:=H) (b:=b) (w:=w) (s:=s) (by omega)
 have h2:=fun w=>s520 (H:=H) (b:=b) (w:=w) (s:=k) (by omega)
 rw [hs] at h1;rw [hk] at h2;have h3:=fun w=>s683 (H:=H) (b:=b) (w:=w) (s:=s) (k:=k) (by omega) (by omega)
 have h4:=fun w=>du subB (s482 (b:=b) (w:=w) h hf hl)
 rw [hx] at h4 hl;have hp1:Pre H (H++[AObj.cells 1 (r.bytes.map u8V)]):=Pre.app _ _;obtain ⟨H',A,y,i1,⟨i2,i3⟩,i4,i5⟩:=p682 (b:=b) (next:=r.next) (ver:=r.ver) hr.rr hr.nn hr.vv (SlB.whole (l:=r.bytes) (q:=H.length) (ga _ _) rfl) hl (cf hb hp1.len);obtain ⟨H2,A2,y2,k1,k2,k3,k4,k5⟩:=zaw (b:=b) (w':=H.length) (fun y=>.tuple [r.val y,.int .i64 0]) (fun y=>by simp [RecsU.val,AVal.ids,AVal.idsL]) (fun f y=>by simp [RecsU.val,AVal.ren,AVal.renL]) (fun n p o k c=>by simp [RecsU.val,AVal.under,AVal.unders]) (fun n=>by simp [RecsU.val,AVal.under,AVal.unders]) hp1.len i2 i3 (hp1.trans i1) (aj _);refine ⟨H2,A2,y2,k1,⟨k2,k4⟩,by rw [k3,i4],fun w=>?_⟩;obtain ⟨a,c,rfl,-⟩:=FRow.row (f:=EV.cells) (fun _=>rfl) i2;unfold RecsU.val at k5 ⊢;generalize r.bytes.map u8V=Y at *;generalize r.bytes.length=N at *;simp (disch:=omega) [bc t675,code675,-dk,h1,h2,h3,h4,i5,k5]
theorem s675n (h:StA H I F K) {s k:Bs} (hs:isName s=true) (hk:isName k=true) (hf:findK (keyB s k) K.ix=none) :
  xCall T 675 [.ptr (some (I.s,0)),.str s,.str k] ⟨H,b,w⟩=some (.tuple [.agg [.int .u32 0,.int .u32 0,.slice none 0 (some 0)],.int .i64 11],⟨H,b,w⟩):=by
 have ls:=g9 hs;have lk:=g9 hk;have h1:=fun w=>s520 (H:=H) (b:=b) (w:=w) (s:=s) (by omega)
 have h2:=fun w=>s520 (H:=H) (b:=b) (w:=w) (s:=k) (by omega)
 rw [hs] at h1;rw [hk] at h2;have h3:=fun w=>s683 (H:=H) (b:=b) (w:=w) (s:=s) (k:=k) (by omega) (by omega)
 have h4:=fun w=>du subB (s482n (b:=b) (w:=w) h hf)
 simp (disch:=omega) [bc t675,code675,h1,h2,h3,h4]
theorem s675x {s k:Bs} {v:AVal} (hl:s.length≤140737488355328) (hs:isName s=false) :
  xCall T 675 [v,.str s,.str k] ⟨H,b,w⟩=some (.tuple [.agg [.int .u32 0,.int .u32 0,.slice none 0 (some 0)],.int .i64 13],⟨H,b,w⟩):=by
 have h1:=fun w=>s520 (H:=H) (b:=b) (w:=w) (s:=s) hl
 rw [hs] at h1;simp (disch:=omega) [bc t675,code675,h1]
end
theorem zav {O P:List AObj} {b w':Nat} {l:Bs} {v:AVal} (mk:AVal→AVal) (h1:∀ y,(mk y).ids=y.ids) (h2:∀ f y,(mk y).ren f=mk (y.ren f)) (h3:∀ n p o k c,(mk (.slice (some (p,o)) k c)).under n=decide (p < n)) (h4:∀ n k c,(mk (.slice none k c)).under n=true)
  (hv:BlobV P v l) (hN:∀ q o n k,v = .slice (some (q,o)) n k→O.length≤q∧∃ X,P[q]? = some (.cells 1 X)) (hp:Pre O P) (hw:O.length≤w') :
  ∃ H' v',Pre O H'∧BlobV H' v' l∧(∀ q o n k,v' = .slice (some (q,o)) n k→O.length≤q∧∃ X,H'[q]? = some (.cells 1 X))∧∀ w,dk ⟨O,b,w⟩ (mk v) ⟨P,b,w'⟩=(mk v',⟨H',b,w⟩):=by
 obtain ⟨a,c,rfl,i1,i2⟩:=id hv;cases a with
 | none =>
  refine ⟨O,_,Pre.refl _,⟨none,c,rfl,(fun p o e=>by cases e),?_⟩,(fun q o n k e=>by cases e),fun w=>?_⟩
  ·rcases i2 with i2 | ⟨p,o,e,-⟩
   ·exact .inl i2
   ·cases e
  ·unfold dk;have e1:¬ (⟨P,b,w'⟩:Heap).wmin < (⟨O,b,w⟩:Heap).size:=by show ¬ w' < O.length; omega
   rw [if_neg e1];exact if_pos (h4 _ _ _)
 | some q =>
  obtain ⟨q,o⟩:=q;obtain ⟨g1,X,g2⟩:=hN q o _ _ rfl;have hu:(mk (.slice (some (q,o)) l.length c)).under O.length=false:=by rw [h3]; exact decide_eq_false (by omega)
  rcases ur (b:=b) (P:=P) hu hw with e | ⟨f,J,Y,e,hm,hi⟩
  ·exact ⟨P,_,hp,hv,hN,e⟩
  ·have hIq:J q:=hi q (by rw [h1]; simp [AVal.ids]) g1;refine ⟨O++Y,(AVal.slice (some (q,o)) l.length c).ren f,fun k o hk=>by rw [ag (ah hk)]; exact hk,hv.moves hm (fun p o k c e=>by cases e; exact ⟨hIq,X,g2⟩),fun q' o' n k e=>?_,fun w=>?_⟩
   ·rw [ren_sl] at e;simp only [renA,AVal.slice.injEq,eu,jn] at e;rw [← e.1.1];exact ⟨hm.up _ g1,_,hm.at' _ _ hIq g2⟩
   ·rw [e w,h2]
theorem p667 (h:StA H I F K) {s k:Bs} {r:RecsU} (hs:isName s=true) (hk:isName k=true) {x:Nat × PlU} (hf:findK (keyB s k) K.ix=some x) (hx:x.2.blob=r.bytes) (hr:r.ok) (hl:x.2.blob.length≤1000000) (hb:b≤H.length) {id j:Nat} {e:EnU} (he:r.list[j]? = some e) (hid:e.id=id) :
  ∃ H' v,Pre H H'∧BlobV H' v e.data∧(∀ q o n k,v = .slice (some (q,o)) n k→H.length≤q∧∃ X,H'[q]? = some (.cells 1 X))∧∀ w,xCall T 667 [.ptr (some (I.s,0)),.str s,.str k,.int .u32 id] ⟨H,b,w⟩=some (.tuple [v,.int .i64 0],⟨H',b,w⟩):=by
 obtain ⟨H1,A,y,i1,i2,i3,i4⟩:=p675 h hs hk hf hx hr hl hb;obtain ⟨a,c,rfl,j1,j2,j3⟩:=i2.row;have hr2:=hr.rr;unfold rightR at hr2;simp only [a7,decide_eq_true_eq] at hr2;obtain ⟨r1,r2,r3⟩:=hr2;have hAl:A.length=r.list.length:=by rw [← i3,bh]
 have hget:∀ (t:Nat) (z:EV),A[t]? = some z→r.list[t]? = some z.1:=fun t z hz=>by rw [← i3,bk,hz]; rfl
 obtain ⟨m,⟨m1,m2⟩,m3⟩:=s674 (b:=b) (c:=c) (id:=id) (y1:=.int .u32 r.next) (y2:=.int .u32 r.ver) j1 (by omega) (fun t u z z' htu hz hz'=>qb r1 t u _ _ htu (hget _ _ hz) (hget _ _ hz'));rw [i3] at m1 m2 m3
 have hmj:m=j:=by
  have hjl:=ah he;rcases zc m j with q | q | q
  ·obtain ⟨z,hz⟩:∃ z,r.list[m]? = some z:=⟨_,ai (by omega)⟩;have h1:=qb r1 _ _ _ _ q hz he;have h2:=(m2 m z hz).2 (by omega);omega
  ·exact q
  ·have:=(m2 j e he).1 q; omega
 subst hmj
 have hia:isAt r.list id m=true:=by unfold isAt; rw [he]; simpa using hid
 rw [hia] at m3;obtain ⟨z,hz⟩:∃ z,A[m]? = some z:=⟨_,ai (by rw [hAl]; exact ah he)⟩;have hze:z.1=e:=by have:=hget _ _ hz; rw [he] at this; cases this; rfl
 obtain ⟨bb,o,cs,rfl,hrow,hpart⟩:=j1.at' (js hz);obtain ⟨p1,p2⟩:=hpart _ z hz;have hxc:EV.cells z=[.int .u32 z.1.id,z.2]:=rfl;rw [hxc] at p2;obtain ⟨n1,n2⟩:=i2.2 z (bn hz);rw [hze] at n1;obtain ⟨H2,v,k1,k2,k3,k4⟩:=zav (b:=b) (w':=H.length) (fun y=>.tuple [y,.int .i64 0]) (fun y=>by simp [AVal.ids,AVal.idsL]) (fun f y=>by simp [AVal.ren,AVal.renL]) (fun n p o k c=>by simp [AVal.under,AVal.unders]) (fun n k c=>by simp [AVal.under,AVal.unders]) n1 n2 i1 (aj _);refine ⟨H2,v,k1,k2,k3,fun w=>?_⟩;obtain ⟨va,vc,hv,-,-⟩:=n1;rw [hv] at p2 k4;unfold RecsU.val at i4;have hml:m < A.length:=ah hz
 have p3:cs[o+m*2+1]? = some (.slice va e.data.length vc):=by have:=congrArg (fun l=>l[1]?) p2;simpa [fh,ef] using this
 simp (disch:=omega) [-getElem?_pos,-getElem?_neg,-List.all_eq_true,qZ,qS,nltT,nltF,iltT,iltF,ileT,nleT,el,bc t667,code667,-dk,i4,m3,hrow,p1,p2,p3,hml,k4]
end
end Go.Abs.AbsNat

namespace Go.Abs.AbsBlb
open Go.Abs.Short
section
variable {H:List AObj} {b w:Nat} {I:SI} {F:Fl} {K:StU}
theorem FRow.weak {α:Type} {N N' e:Nat} {f:α→List AVal} {A:List α} {P:List AObj} {x:AVal} (h:FRow N e f A P x) (hN:N'≤N):FRow N' e f A P x:=by
 rcases h with h | ⟨h0,q,h1,h2,h3⟩
 ·exact .inl h
 ·exact .inr ⟨h0,q,cf hN h1,h2,h3⟩
end
end Go.Abs.AbsBlb
namespace Go.Abs.AbsBlo
open Go.Abs.AbsBlb hiding T
open Go.Abs.Short
section
variable {H:List AObj} {b w:Nat} {I:SI} {F:Fl} {K:StU}
end
end Go.Abs.AbsBlo

namespace Go.Abs.AbsBlo
open Go.Abs.AbsBlb hiding T
open Go.Abs.Short
section
variable {E:Env} {kl:List Bs} {H:List AObj} {b:Nat} {I:SI} {F:Fl} {K:StU}
end
end Go.Abs.AbsBlo

namespace Go.Abs.AbsBlo
open Go.Abs.AbsBlb hiding T
open Go.Abs.Short
theorem jk {kl:List Bs} {H:List AObj} {I:SI} {F:Fl} {K:StU} (h:SO kl H I F K) (X:List AObj):AbsBlb.SO kl (H++X) I F K:=⟨h.a.app X,h.v⟩
section
variable {P:List AObj} {b w:Nat}
end
end Go.Abs.AbsBlo

namespace Go.Abs.AbsBlo
open Go.Abs.AbsBlb hiding T
open Go.Abs.Short
section
variable {P P2:List AObj} {b w:Nat}
end
section
variable {kl:List Bs} {P:List AObj} {b w:Nat} {I:SI} {F:Fl} {K:StU}
end
end Go.Abs.AbsBlo

namespace Go.Abs.AbsBlo
open Go.Abs.AbsBlb hiding T
open Go.Abs.Short
section
variable {kl:List Bs} {P:List AObj} {b w:Nat} {I:SI} {F:Fl} {K:StU}
end
end Go.Abs.AbsBlo

namespace Go.Abs.AbsBlo
open Go.Abs.AbsBlb hiding T
open Go.Abs.Short
section
variable {E:Env} {kl:List Bs} {H:List AObj} {b:Nat} {I:SI} {F:Fl} {K:StU}
end
end Go.Abs.AbsBlo

namespace Go.Abs.AbsBlo
open Go.Abs.AbsBlb hiding T
open Go.Abs.Short
def Fits (F:Fl) (K:StU) (n:Nat):Prop:=K.head ≠ -1∧K.at_+n≤F.z
def Good (F:Fl) (K:StU) (n:Nat):Prop:=¬ Fits F K n→2≤cnt (opn F.lim) K.secs K.secs.length∧(nextS F K).2=true∧K.seq≠4294967295∧12+n≤F.z
def Kept (K K':StU):Prop:=K'.ix=K.ix∧K'.at_≤K.at_+12
section
variable {E:Env} {kl:List Bs} {H:List AObj} {b:Nat} {I:SI} {F:Fl} {K:StU}
end
end Go.Abs.AbsBlo

namespace Go.Abs.AbsBlo
open Go.Abs.AbsBlb hiding T
open Go.Abs.Short
def i1:Opd:=n 1
section
variable {E:Env} {kl:List Bs} {H:List AObj} {b:Nat} {I:SI} {F:Fl} {K:StU}
end
end Go.Abs.AbsBlo

namespace Go.Abs.AbsBlo
open Go.Abs.AbsBlb hiding T
open Go.Abs.Short
section
variable {E:Env} {kl:List Bs} {H:List AObj} {b:Nat} {I:SI} {F:Fl} {K:StU}
end
end Go.Abs.AbsBlo

namespace Go.Abs.AbsBlo
open Go.Abs.AbsBlb hiding T
open Go.Abs.Short
def GoodC (F:Fl) (K:StU) (L:List ChU):Prop:=¬ (L.foldl (fun S c=>addK S c.key) []).length < L.length∧sizes (L.map ChU.toR)+16≤(F.z - 12) / 2∧Good F K (sizes (L.map ChU.toR)+16)
def CommitQ (kl:List Bs) (H:List AObj) (I:SI) (F:Fl) (K:StU) (L:List ChU) (b w:Nat) (v:AVal) (h':Heap):Prop :=
 ∃ H' F' K' w' e,h'=⟨H',b,w'⟩∧StF I H H'∧SO kl H' I F' K'∧FlE F F'∧min w b≤w'∧(w'≤I.hi∨(H'=H∧w'=w))∧v = .int .i64 e ∧
  (GoodC F K L→e=0∧w'≤I.hi∧∃ K1 hd A,Kept K K1∧A.map Prod.fst=L.map ChU.toR∧K'=wroteK K1 hd A∧K'.head ≠ -1)
section
variable {E:Env} {kl:List Bs} {H:List AObj} {b:Nat} {I:SI} {F:Fl} {K:StU}
end
end Go.Abs.AbsBlo

namespace Go.Abs.AbsBlb
open Go.Abs.Short
section
variable {kl:List Bs} {H:List AObj} {b:Nat} {I:SI} {F:Fl} {K:StU}
theorem q598x (h:SO kl H I F K) (hb:I.lo b):(((nextS F K).2=false∨K.seq=4294967295)∧∀ w,xCall T 598 [.ptr (some (I.s,0))] ⟨H,b,w⟩=some (.int .i64 10,⟨H,b,w⟩)) ∨
  (∃ H' F' K',∃ nx:Nat→Nat,StF I H H'∧SO kl H' I F' K'∧FlE F F'∧(∃ (i:Nat) (x:Int),i < K.secs.length∧K' = { K with secs:=K.secs.set i ⟨2,(K.seq:Int)+1,x⟩,head:=i,at_:=12,txn:=0,seq:=K.seq+1 })∧(∀ w,nx w≤I.hi∧min w b≤nx w) ∧
   ∀ w,xCall T 598 [.ptr (some (I.s,0))] ⟨H,b,w⟩=some (.int .i64 0,⟨H',b,nx w⟩)):=by
 by_cases c:(nextS F K).2=false∨K.seq=4294967295
 ·exact .inl ⟨c,fun w=>p598n h.a c⟩
 ·have c1:(nextS F K).2=true:=by cases hq:(nextS F K).2 with
   | true=>rfl
   | false=>exact absurd (.inl hq) c
  have c2:K.seq≠4294967295:=fun e=>c (.inr e)
  have hsb:=h.a.sb;obtain ⟨i,hi⟩:∃ i,nextS F K=(i,true):=⟨(nextS F K).1,by rw [← c1]⟩
  obtain ⟨y,hy,hm⟩:∃ y,K.secs[i]? = some y∧opn F.lim y=true:=by have:=zg (opn F.lim) Sec.er K.secs K.secs.length (by unfold nextS at hi; rw [hi]);unfold nextS at hi;rw [hi] at this;exact this
  have hin:i < F.n:=by rw [← h.v.ln]; exact ah hy
  have hyl:y=F.look i:=by have:=h.v.lk i hin; rw [hy] at this; exact dr this
  obtain ⟨x,hx,he⟩:=h.wex hin
  have hst:(F.look i).st=0∨((F.look i).st=1∧x < F.lim):=by
   rw [hyl] at hm;unfold opn at hm;rw [he] at hm;simp only [dt,a7,decide_eq_true_eq] at hm;rcases hm with hm | ⟨hm,hl⟩
   ·exact .inl hm
   ·exact .inr ⟨hm,by omega⟩
  obtain ⟨x',hx'⟩:∃ x',(F.clear i).w[i]? = some x':=by
   refine ⟨_,ai ?_⟩;unfold Fl.clear;split
   ·rw [h.v.wl]; exact hin
   ·show i < (F.w.set i _).length
    rw [bf,h.v.wl]; exact hin
  obtain ⟨H',nx,k1,k2,k3,k4⟩:=p598 h.a hb h.v.gz hi c2 hx hst hx';obtain ⟨d1,d2,d3⟩:=tj F i;exact .inr ⟨H',_,_,nx,k1,⟨k2,open_inv h.v hi (by omega) hx'⟩,⟨d1,d2,d3⟩,⟨i,x',ah hy,rfl⟩,k3,k4⟩
end
end Go.Abs.AbsBlb

namespace Go.Abs.AbsBlb
open Go.Abs.Short
def ChU.fineD (c:ChU):Prop:=c.del=true∧c.v = .slice none 0 (some 0)∧c.blob=[]∧1≤c.key.length∧c.key.length≤64
theorem ChU.fineD.right {c:ChU} (h:c.fineD):c.toR.right=true∧c.toR.txn=1:=by obtain ⟨h0,-,-,h1,h2⟩:=h;unfold ChU.toR RecU.right rightB;simp [h0,h1,h2]
section
variable {H0 H:List AObj} {b m:Nat}
section
attribute [-simp] getElem?_pos getElem?_neg List.all_eq_true
attribute [local simp] qZ qS nltT nltF iltT iltF ileT nleT el
theorem l581d {L:List ChU} {la:Option (Nat × Nat)} {lc:Option Nat} (hR:Row H0 3 ChU.cells L la) (hLn:L.length≤16) (hL:∀ c ∈ L,c.fineD) (hb:b≤H0.length) (hm:m=H0.length):∀ (j i w:Nat) (P:List AObj) (S:List Bs) (A:List RV) (x:AVal),i+j=L.length→A.length=i→Pre H0 P→P[m]? = some (setM S)→FRow H0.length 5 RV.cells A P x→(∀ p ∈ A,p.new H0.length P) →
  ∃ (P':List AObj) (A':List RV) (x':AVal) (w':Nat),Pre H0 P'∧P'[m]? = some (setM ((L.drop i).foldl (fun S c=>addK S c.key) S))∧FRow H0.length 5 RV.cells (A++A') P' x'∧A'.map Prod.fst=(L.drop i).map ChU.toR∧(∀ p ∈ A++A',p.new H0.length P')∧(H0.length≤w→H0.length≤w')∧∀ {β:Type} (k:AExit→St→Option β),
  xK T (.loop code581L0) ⟨[(0,.val (.slice la L.length lc)),(4,.val (.map (some m))),(5,.val x),(20,.val (.slice la L.length lc)),(21,.val (.int .i64 L.length)),(22,.val (.int .i64 i))],⟨P,b,w⟩⟩ (k:=⟨k⟩) =
   k (.exit 0) ⟨[(0,.val (.slice la L.length lc)),(4,.val (.map (some m))),(5,.val x')],⟨P',b,w'⟩⟩
 | 0,i,w,P,S,A,x,hi,hA,hp,hs,hx,hn=>by have hd:L.drop i=[]:=co (by omega);refine ⟨P,[],x,w,hp,by rw [hd]; exact hs,by rw [gq]; exact hx,by rw [hd]; rfl,by rw [gq]; exact hn,fun h=>h,fun k=>?_⟩;rw [cd];simp (disch:=omega) [code581L0]
 | j+1,i,w,P,S,A,x,hi,hA,hp,hs,hx,hn=>by
  obtain ⟨c,hc⟩:∃ c,L[i]? = some c:=⟨_,ai (by omega)⟩;obtain ⟨bb,o,cs,rfl,hrow,hpart⟩:=hR.at' (js hc);obtain ⟨p1,p2⟩:=hpart i c hc;have hcm:=bn hc;have hfine:=hL c hcm;obtain ⟨hr,hr1⟩:=hfine.right;obtain ⟨hd,hv,hbl,k1,k2⟩:=hfine;have hd1:=ie hc;have hPr:P[bb]? = some (.cells 3 cs):=hp _ _ hrow;have y1:∀ w,xCall T 100465 [.slice none 0 (some 0)] ⟨P,b,w⟩=some (.slice none 0 (some 0),⟨P,b,w⟩):=fun w=>by simp (disch:=omega) [bc t100465,code100465]
  have hml:=ah hs;have hpl:=hp.len;have e3:c.toR=⟨2,1,c.key,[],0⟩:=by unfold ChU.toR; rw [hd]; rfl
  let v:AVal:=.slice none 0 (some 0)
  have hvn:RV.new H0.length (P++[AObj.cells 5 (c.toR.cells v)]) (c.toR,v):=⟨⟨none,some 0,by rw [e3]; rfl,(fun p o h=>by cases h),.inl (by rw [e3])⟩,fun q o n k e=>by cases e⟩;have hvb:BlobV (P++[AObj.cells 5 (c.toR.cells v)]) v c.toR.blob:=hvn.1;have h596:=fun w=>s596 (b:=b) (w:=w) hvb hr (by rw [hr1]; decide) (by rw [aq]; omega)
  have hs2:(P++[AObj.cells 5 (c.toR.cells v)]++[.cells 1 ((recB c.toR).map u8V)])[m]? = some (setM S):=by rw [ag (by rw [aq]; omega),ag hml]; exact hs
  have hk:=fun w=>ext_key (b:=b) (w:=w) hs2 (k:=c.key) (by omega)
  have hl2:(P++[AObj.cells 5 (c.toR.cells v)]++[AObj.cells 1 ((recB c.toR).map u8V)]).length=P.length+2:=by simp
  have hs3:=jr hs2 (y:=setM (addK S c.key))
  have hg5:(P++[AObj.cells 5 (c.toR.cells v)]++[AObj.cells 1 ((recB c.toR).map u8V)])[P.length]? = some (.cells 5 (c.toR.cells v)):=by rw [az,aw (aj _),mw]; rfl
  generalize hP2:P++[AObj.cells 5 (c.toR.cells v)]++[AObj.cells 1 ((recB c.toR).map u8V)]=P2 at *
  have up:∀ (k:Nat) (o:AObj),k≠m→P[k]? = some o→(P2.set m (setM (addK S c.key)))[k]? = some o:=fun k o hk ho=>by rw [av (fun e=>hk e.symm),← hP2,az,ag (ah ho)]; exact ho
  have hl3:(P2.set m (setM (addK S c.key))).length=P.length+2:=by rw [bf,hl2]
  have upm:∀ (k:Nat) (e:Nat) (cs:List AVal),P[k]? = some (.cells e cs)→(P2.set m (setM (addK S c.key)))[k]? = some (.cells e cs):=fun k e cs ho=>up k _ (fun e'=>by rw [e',hs] at ho; simp [setM] at ho) ho
  have fr3:=hx.monoE (P':=P2.set m (setM (addK S c.key))) fun k cs hk ho=>upm k _ _ ho
  obtain ⟨P4,x4,n4,f1,f2,f3,f4,f5⟩:=fr3.add' (b:=b) (by':=64) (fun _=>rfl) (by omega) hb (by omega) (by omega) (c.toR,v)
  have hnew:∀ p ∈ A++[(c.toR,v)],RV.new H0.length P4 p:=fun p hp4=>by
   rcases bw.1 hp4 with h4 | h4
   ·exact (hn p h4).mono (by omega) fun k X hk ho=>f2 _ _ (upm _ _ _ ho) fun _ cs e=>by simp at e
   ·rw [bq.1 h4];refine hvn.mono (by rw [aq]; simp; omega) fun k X hk ho=>f2 _ _ ?_ fun _ cs e=>by simp at e
    have hkm:m≠k:=fun e=>by rw [← e,ag hml,hs] at ho;simp [setM] at ho
    rw [av hkm,← hP2,ag (ah ho)]; exact ho
  have hpre4:Pre H0 P4:=fun k o ho=>f2 _ _ (up k o (by have:=ah ho; omega) (hp _ _ ho)) fun h=>by have:=ah ho; omega
  have hm4:=f2 _ _ hs3 fun _ cs e=>by simp [setM] at e
  obtain ⟨P',A',x',w',i1,i2,i3,i4,i5,i6,i7⟩:=l581d (lc:=lc) hR hLn hL hb hm j (i+1) (n4 (min (min w P.length) m)) P4 _ _ x4 (by omega) (by rw [aq]; simp; omega) hpre4 hm4 f1 hnew;refine ⟨P',(c.toR,v) :: A',x',w',i1,by rw [hd1]; exact i2,by rw [az] at i3; exact i3,by rw [hd1,bo,bo,i4],fun p hp5=>i5 p (by rw [az]; exact hp5),fun hw=>i6 (by have:=(f4 (min (min w P.length) m)).2; omega),fun k=>?_⟩;have ih:=i7 k;have e2:((i+1:Nat):Int)=(i:Int)+1:=by omega
  rw [e2] at ih;rw [cd,← ih];have hcc:ChU.cells c=[.bool c.del,.str c.key,c.v]:=rfl;rw [hcc] at p2;generalize ACode.loop code581L0=LL;rw [hv] at p2;rw [hl3] at f5;unfold RV.cells RecU.cells at f5;unfold RecU.cells at h596 hg5;have e1:v = .slice none 0 (some 0):=rfl;rw [e1,e3] at h596 f5 hg5;rw [hd] at p2;simp only [ba] at h596 f5 hg5;simp (disch:=omega) [code581L0,-ex,-dj,-fj,jf,jg,gu,hPr,p1,p2,y1,h596,hk,f5,hg5,hl2,bz]
theorem p581d {L:List ChU} {la:Option (Nat × Nat)} {lc:Option Nat} (hR:Row H 3 ChU.cells L la) (h0:L≠[]) (hLn:L.length≤16) (hL:∀ c ∈ L,c.fineD) (hb:b≤H.length) :
  ((L.foldl (fun S c=>addK S c.key) []).length < L.length∧∀ w,xCall T 581 [.slice la L.length lc] ⟨H,b,w⟩=some (.tuple [.slice none 0 (some 0),.int .i64 12],⟨H,b,w⟩)) ∨
  (¬ (L.foldl (fun S c=>addK S c.key) []).length < L.length∧∃ H' A x,Pre H H'∧FRow H.length 5 RV.cells A H' x∧A.map Prod.fst=L.map ChU.toR∧(∀ p ∈ A,p.new H.length H') ∧
   ∀ w,xCall T 581 [.slice la L.length lc] ⟨H,b,w⟩=some (.tuple [x,.int .i64 0],⟨H',b,w⟩)):=by
 have hl0:0 < L.length:=uf.2 h0;obtain ⟨P',A',x',w',i1,i2,i3,i4,i5,i6,i7⟩:=l581d (b:=b) (lc:=lc) hR hLn hL hb rfl L.length 0 H.length (H++[setM []]) [] [] (.slice none 0 (some 0)) (by omega) rfl (fun k o hk=>by rw [ag (ah hk)]; exact hk) (ga H _) (.inl ⟨rfl,rfl⟩) (fun p hp=>by cases hp);rw [eq] at i2 i4;rw [ff] at i3 i5;have hw':H.length≤w':=i6 (aj _);generalize L.foldl (fun S c=>addK S c.key) []=S at *
 have hA:A'≠[]:=fun e=>by rw [e] at i4;have:=congrArg List.length i4;rw [bh] at this;simp at this; omega
 have hSl:((ksE 0 S).length)=S.length:=ksE_len 0 S;unfold setM at i2;simp only [ba] at i7;by_cases c:S.length < L.length
 ·refine .inl ⟨c,fun w=>?_⟩;have hs0:setM [] = .map [] 0:=rfl;rw [hs0] at i7;simp (disch:=omega) [bc t581,code581,h0,i7,i2,hSl,c]
 ·obtain ⟨H',A,x,j1,j2,j3,j4,j5⟩:=rows_fin (b:=b) (fun y=>.tuple [y,.int .i64 0]) (fun y=>by simp [AVal.ids,AVal.idsL]) (fun f y=>by simp [AVal.ren,AVal.renL]) (fun n p o k c=>by simp [AVal.under,AVal.unders]) hA i3 i5 i1 hw';refine .inr ⟨c,H',A,x,j1,j2,by rw [j3,i4],j4,fun w=>?_⟩;have hs0:setM [] = .map [] 0:=rfl;rw [hs0] at i7;simp (disch:=omega) [bc t581,code581,-dk,h0,i7,i2,hSl,c,j5]
end
end
end Go.Abs.AbsBlb

namespace Go.Abs.AbsBlo
open Go.Abs.AbsBlb hiding T
open Go.Abs.Short
def OpnN (F:Fl) (K:StU) (n:Nat) (K1:StU):Prop:=(K1=K∧Fits F K n)∨(¬ Fits F K n∧∃ (i:Nat) (x:Int),i < K.secs.length∧K1 = { K with secs:=K.secs.set i ⟨2,(K.seq:Int)+1,x⟩,head:=i,at_:=12,txn:=0,seq:=K.seq+1 })
section
variable {kl:List Bs} {H:List AObj} {b:Nat} {I:SI} {F:Fl} {K:StU}
section
attribute [-simp] getElem?_pos getElem?_neg List.all_eq_true
attribute [local simp] qZ qS nltT nltF iltT iltF ileT nleT el
theorem p580x (h:SO kl H I F K) (hb:I.lo b) (hbN:b≤H.length) (hFn:0 < F.n) {n:Nat} (hn:n≤1000000000) (hG:AbsBlo.Good F K n) :
  ∃ H' F' K',∃ nx:Nat→Nat,StF I H H'∧SO kl H' I F' K'∧FlE F F'∧Fits F' K' n∧OpnN F K n K'∧(∀ w,min w b≤nx w∧(H.length≤w→b≤nx w))∧∀ w,xCall T 580 [.ptr (some (I.s,0)),.int .i64 n] ⟨H,b,w⟩=some (.int .i64 0,⟨H',b,nx w⟩):=by
 have hIhi:=h.a.hi;have hnb:=h.a.fl.nb.1;have hln:=h.v.ln;have gs:=h.a.s;unfold StU.cells at gs;have h597:=fun w=>du sub (s597 (b:=b) (w:=w) h.a hn)
 have hl1:(0:Int) < 4*(K.secs.length:Int):=by omega
 have hl2:(1:Int) < 4*(K.secs.length:Int):=by omega
 by_cases hf:Fits F K n
 ·have hft:(!decide (K.head = -1) && decide (K.at_+n≤F.z))=true:=by simp [hf.1,hf.2]
  rw [hft] at h597;refine ⟨H,F,K,id,.refl,h,.refl _,hf,.inl ⟨rfl,hf⟩,fun w=>⟨cz _ _,fun hw=>by show b≤w; omega⟩,fun w=>?_⟩;simp (disch:=omega) [bc t580,code580,gs,h597,cd,code580L0,hl1]
 ·obtain ⟨g1,g2,g3,g4⟩:=hG hf
  have hff:(!decide (K.head = -1) && decide (K.at_+n≤F.z))=false:=by
   by_cases c1:K.head = -1
   ·simp [c1]
   ·have:¬ K.at_+n≤F.z:=fun c2=>hf ⟨c1,c2⟩
    simp [this]
  rw [hff] at h597;rcases q598x h hb with ⟨c,-⟩ | ⟨H',F',K',nx,k1,k2,k3,⟨i,xx,k6,rfl⟩,k10,k11⟩
  ·rcases c with c | c
   ·rw [g2] at c; cases c
   ·exact absurd c g3
  ·have hf':Fits F' { K with secs:=K.secs.set i ⟨2,(K.seq:Int)+1,xx⟩,head:=i,at_:=12,txn:=0,seq:=K.seq+1 } n:=⟨by show (i:Int) ≠ -1; omega,by rw [k3.z]; exact g4⟩;have h597':=fun w=>du sub (s597 (b:=b) (w:=w) k2.a hn)
   have hft:(!decide ((i:Int) = -1) && decide (12+n≤F'.z))=true:=by have h1:=hf'.1;have h2:=hf'.2;simp only at h1 h2;simp [h1,h2]
   simp only [hft] at h597';have h598:=fun w=>du sub (k11 w)
   have hR:Row H 3 Sec.cells K.secs (some (I.sa,0)):=Row.mk0 (fun _=>rfl) h.a.r;have h0:=fun c w=>du sub (s0 (os:=H) (b:=b) (w:=w) (c:=c) (lim:=F.lim) hR (by omega))
   have hc2:(2:Int)≤(cnt (opn F.lim) K.secs K.secs.length:Nat):=by omega
   refine ⟨H',F',_,fun w=>min w (nx H.length),k1,k2,k3,hf',.inr ⟨hf,i,xx,k6,rfl⟩,fun w=>?_,fun w=>?_⟩
   ·have:=k10 H.length;show min w b≤min w (nx H.length)∧(H.length≤w→b≤min w (nx H.length));omega
   ·have hx:=k10 H.length;have hlt:nx H.length < H.length:=by omega
    simp (disch:=omega) [bc t580,code580,gs,h597,h597',h598,h0,hc2,cd,code580L0,hl1,hl2,hlt]
theorem p549y (h:SO kl H I F K) (hkl:∀ k ∈ kl,1≤k.length∧k.length≤64) (hb:I.lo b) (hbN:b≤H.length) (hFn:0 < F.n)
  {L:List ChU} {la:Option (Nat × Nat)} {lc:Option Nat} (h0:L≠[]) (hLn:L.length≤16) (hL:∀ c ∈ L,c.blob.length≤4096∧c.key ∈ kl) (hG:GoodC F K L)
  (hpk:∃ H1 A x,Pre H H1∧FRow H.length 5 RV.cells A H1 x∧A.map Prod.fst=L.map ChU.toR∧(∀ p ∈ A,p.new H.length H1)∧∀ w,xCall AbsBlb.T 581 [.slice la L.length lc] ⟨H,b,w⟩=some (.tuple [x,.int .i64 0],⟨H1,b,w⟩)) :
  ∃ H' F' K',∃ nx:Nat→Nat,StF I H H'∧SO kl H' I F' K'∧FlE F F'∧(∀ w,min w b≤nx w∧nx w≤I.hi)∧(∃ (K1:StU) (hd:Nat) (A:List RV),OpnN F K (sizes (L.map ChU.toR)+16) K1∧K1.head=hd∧A.map Prod.fst=L.map ChU.toR∧K'=wroteK K1 hd A∧K'.head ≠ -1) ∧
   ∀ w,xCall T 549 [.ptr (some (I.s,0)),.slice la L.length lc] ⟨H,b,w⟩=some (.int .i64 0,⟨H',b,nx w⟩):=by
 have hIhi:=h.a.hi;have hIfl:=ah h.a.fl.f;have hI:I.s≤I.hi∧I.sa≤I.hi∧I.m≤I.hi∧I.fi.fb≤I.hi∧I.fi.fw≤I.hi:=by unfold SI.hi; omega
 have hnb:=h.a.fl.nb.2;have hz:=h.v.gz;have h561:=fun w=>du sub (s561 (b:=b) (w:=w) h.a)
 rw [h.v.dn] at h561;obtain ⟨H1,A,x,hp,hx,hA,hnew,h581⟩:=hpk
 ·have h581:=fun w=>du sub (h581 w)
  have hAne:A≠[]:=fun e=>by rw [e] at hA;have:=congrArg List.length hA;rw [bh,bh] at this;exact h0 (cg this.symm)
  have hAl:A.length=L.length:=by have:=congrArg List.length hA;rwa [bh,bh] at this
  rcases hx with ⟨e,-⟩ | ⟨-,q,hq,rfl,hrow⟩
  ·exact absurd e hAne
  ·have h1:SO kl H1 I F K:=⟨h.a.low (N:=H.length) ⟨hIhi,hIfl⟩ fun k o _ ho=>hp k o ho,h.v⟩;have hpl:=hp.len
   have hrec:∀ p ∈ A,p.1.key ∈ kl∧p.1.count=0∧(p.1.kind=1∧p.1.blob.length≤4096∨p.1.kind=2∧p.1.blob=[]):=fun p hpA=>by
    have:p.1 ∈ A.map Prod.fst:=cq.2 ⟨p,hpA,rfl⟩;rw [hA] at this;obtain ⟨c,hc,e⟩:=cq.1 this;obtain ⟨g1,g2⟩:=hL c hc;rw [← e];unfold ChU.toR;cases c.del
    ·exact ⟨g2,rfl,.inl ⟨rfl,g1⟩⟩
    ·exact ⟨g2,rfl,.inr ⟨rfl,rfl⟩⟩
   have hok:∀ p ∈ A,RV.ok H1 p:=fun p hpA=>by
    obtain ⟨g1,g2,g3⟩:=hrec p hpA;have:=(hkl _ g1).2;refine ⟨(hnew p hpA).1,by omega,?_⟩;rcases g3 with ⟨-,g3⟩ | ⟨-,g3⟩
    ·omega
    ·rw [g3]; exact ge _
   have h579:=fun w=>du sub (s579 (H:=H1) (b:=b) (w:=w) (L:=A) (a:=some (q,0)) (c:=none) (Row.mk0 (fun _=>rfl) hrow) (by omega) hAne hok)
   have hsl:=za5 hok;rw [hA] at hsl h579;have gs:=h1.a.s;unfold StU.cells at gs
   have hq2:((F.z:Int) - 12).tdiv 2=(((F.z - 12) / 2:Nat):Int):=by rw [Int.tdiv_eq_ediv_of_nonneg (by omega)]; omega
   have hlong:=hG.2.1;have hli:¬ ((((F.z - 12) / 2:Nat):Int) < ((sizes (L.map ChU.toR)+16:Nat):Int)):=by omega
   obtain ⟨H2,F2,K2,n2,s1,s2,s3,hfit,hkept,s5,s6⟩:=p580x (b:=b) h1 hb (by omega) hFn (n:=sizes (L.map ChU.toR)+16) (by omega) hG.2.2;have hrow2:=s1.above hIhi _ _ hq hrow;have hnew2:∀ p ∈ A,p.new H.length H2:=fun p hpA=>(hnew p hpA).mono s1.len fun k X hk ho=>s1.above hIhi k _ hk ho
   obtain ⟨hd2,hhd⟩:∃ hd:Nat,K2.head=hd:=by
    rcases s2.v.hd with e | ⟨y,e,-⟩
    ·exact absurd e hfit.1
    ·exact ⟨y,e⟩
   obtain ⟨H3,F3,K3,n3,k1,k2,k3,k4,k5,k6,k7,k8,k9⟩:=q577 (b:=b) (lc:=none) s2 hb (by have:=s1.len; omega) (L:=A) (Row.mk0 (fun _=>rfl) hrow2) hAne (by omega) hkl (fun p hpA=>⟨⟨(hnew2 p hpA).1,fun qq o nn c e=>by have:=((hnew2 p hpA).2 qq o nn c e).1; omega⟩,hrec p hpA⟩) hhd (by rw [hA]; have:=hfit.2; omega);obtain ⟨H4,j1,j2,j3,j4⟩:=p578 (b:=b) k2.a hb;have h577:=fun w=>du sub (k9 w)
   have h578:=fun w=>du sub (j4 w)
   have hI1:StF I H H1:=⟨hpl,fun k o ho _ _ _ _ _=>hp k o ho⟩;have hb0:=hb.1;have e2:=s5 H.length;have e3:=k8 (n2 H.length);refine ⟨H4,F3,K3,fun w=>min w (min (n3 (n2 H.length)) I.s),((hI1.trans s1).trans k1).trans j1,⟨j2,k2.v⟩,s3.trans k3,fun w=>?_,⟨K2,hd2,A,hkept,hhd,hA,k6,by rw [k4]; omega⟩,fun w=>?_⟩
   ·show min w b≤min w (min (n3 (n2 H.length)) I.s)∧min w (min (n3 (n2 H.length)) I.s)≤I.hi
    omega
   ·have hlt:min (n3 (n2 H.length)) I.s < H.length:=by omega
    have hzn:(0:Int)≤(((F.z - 12) / 2:Nat):Int)∧(((F.z - 12) / 2:Nat):Int)≤65536:=by omega
    have hwz:IntKind.i64.wrap (((F.z - 12) / 2:Nat):Int)=(((F.z - 12) / 2:Nat):Int):=el (by omega);rw [← hAl] at h581 ⊢;generalize ((sizes (L.map ChU.toR)+16:Nat):Int)=sn at *;generalize (((F.z - 12) / 2:Nat):Int)=zn at *;simp (disch:=omega) [bc t549,code549,h561,h581,h579,gs,hq2,hwz,hli,s6,h577,h578,hlt]
end
theorem p549x (h:SO kl H I F K) (hkl:∀ k ∈ kl,1≤k.length∧k.length≤64) (hb:I.lo b) (hbN:b≤H.length) (hFn:0 < F.n)
  {L:List ChU} {la:Option (Nat × Nat)} {lc:Option Nat} (hR:Row H 3 ChU.cells L la) (h0:L≠[]) (hLn:L.length≤16) (hL:(∀ c ∈ L,c.fine H)∨(∀ c ∈ L,c.fineD)) (hLk:∀ c ∈ L,c.key ∈ kl) (hG:GoodC F K L) :
  ∃ H' F' K',∃ nx:Nat→Nat,StF I H H'∧SO kl H' I F' K'∧FlE F F'∧(∀ w,min w b≤nx w∧nx w≤I.hi)∧(∃ (K1:StU) (hd:Nat) (A:List RV),OpnN F K (sizes (L.map ChU.toR)+16) K1∧K1.head=hd∧A.map Prod.fst=L.map ChU.toR∧K'=wroteK K1 hd A∧K'.head ≠ -1) ∧
   ∀ w,xCall T 549 [.ptr (some (I.s,0)),.slice la L.length lc] ⟨H,b,w⟩=some (.int .i64 0,⟨H',b,nx w⟩):=by
 rcases hL with hL | hL
 ·refine p549y h hkl hb hbN hFn h0 hLn (fun c hc=>⟨(hL c hc).2.2.2.2,hLk c hc⟩) hG ?_;rcases p581 (b:=b) (lc:=lc) hR h0 hLn hL hbN with ⟨hd,-⟩ | ⟨-,hh⟩
  ·exact absurd hd hG.1
  ·exact hh
 ·refine p549y h hkl hb hbN hFn h0 hLn (fun c hc=>⟨by rw [(hL c hc).2.2.1]; exact ge _,hLk c hc⟩) hG ?_;rcases p581d (b:=b) (lc:=lc) hR h0 hLn hL hbN with ⟨hd,-⟩ | ⟨-,hh⟩
  ·exact absurd hd hG.1
  ·exact hh
end
end Go.Abs.AbsBlo

namespace Go.Abs.AbsNat
open Go.Abs.AbsBlb hiding T
open Go.Abs.AbsBlo (Fits OpnN GoodC jk)
open Go.Abs.Short
theorem cnt_up (m:Sec→Bool) (L:List Sec) (n:Nat):cnt m L n≤cnt m L (n+1)∧cnt m L (n+1)≤cnt m L n+1:=by
 simp only [cnt];split
 ·split <;> omega
 ·omega
theorem zau (m:Sec→Bool) (L:List Sec) (i:Nat) (y:Sec):∀ n,(n≤i→cnt m (L.set i y) n=cnt m L n)∧cnt m L n≤cnt m (L.set i y) n+1
 | 0=>⟨fun _=>rfl,ge _⟩
 | n+1=>by
  obtain ⟨h1,h2⟩:=zau m L i y n;by_cases c:n=i
  ·have h3:=h1 (by omega);have h4:=cnt_up m L n;have h5:=cnt_up m (L.set i y) n;exact ⟨fun h=>by omega,by omega⟩
  ·have hg:(L.set i y)[n]? = L[n]?:=av (fun e=>c e.symm);refine ⟨fun h=>?_,?_⟩
   ·simp only [cnt,hg]; rw [h1 (by omega)]
   ·simp only [cnt,hg];split
    ·split <;> omega
    ·omega
theorem vz (m:Sec→Bool) (k:Sec→Int) (L:List Sec):∀ n,1≤cnt m L n→(least m k L n).2=true
 | 0,h=>by simp [cnt] at h
 | n+1,h=>by
  have ih:=vz m k L n;simp only [cnt] at h;simp only [least];cases hx:L[n]? with
  | none=>simp only [hx] at h ⊢; exact ih h
  | some x =>
   simp only [hx] at h ⊢;split
   ·rfl
   ·rename_i hc;by_cases hm:m x=true
    ·cases hl:(least m k L n).2 with
     | true=>rfl
     | false=>simp [hm,hl] at hc
    ·rw [if_neg hm] at h; exact ih h
def cc (F:Fl) (K:StU):Nat:=cnt (opn F.lim) K.secs K.secs.length
def bud (F:Fl) (K:StU):Nat:=(if K.head = -1 then 0 else (F.z - K.at_) / 64)+6*(cc F K - 1)
def StepN (F:Fl) (K:StU) (n:Nat) (K':StU):Prop:=∃ K1,OpnN F K n K1∧K'.secs=K1.secs∧K'.head=K1.head∧K'.at_=K1.at_+n∧K'.seq=K1.seq
theorem bud_good {F:Fl} {K:StU} {n:Nat} (hz:400≤F.z) (hn:n≤64) (h:1≤bud F K) (hs:K.seq≠4294967295):AbsBlo.Good F K n:=fun hf=>by
 have h2:2≤cc F K:=by
  unfold bud at h;split at h
  ·omega
  ·rename_i hh;have:¬ K.at_+n≤F.z:=fun c=>hf ⟨hh,c⟩
   have:(F.z - K.at_) / 64=0:=by omega
   omega
 refine ⟨h2,?_,hs,by omega⟩;unfold nextS;exact vz _ _ _ _ (by unfold cc at h2; omega)
theorem StepN.bud {F F':Fl} {K K':StU} {n:Nat} (h:StepN F K n K') (hF:FlE F F') (hz:400≤F.z) (hn:n≤64):bud F K≤AbsNat.bud F' K'+1∧K'.seq≤K.seq+1:=by
 obtain ⟨K1,h1,h2,h3,h4,h5⟩:=h;have hcc:cc F' K'=cc F K1:=by unfold cc; rw [h2,hF.l]
 unfold AbsNat.bud;rw [hcc,h3,h4,hF.z];rcases h1 with ⟨rfl,hf⟩ | ⟨hf,i,x,hi,e⟩
 ·rw [if_neg hf.1,if_neg hf.1];have:=hf.2;exact ⟨by omega,by omega⟩
 ·have e1:K1.head=(i:Int):=by rw [e]
  have e2:K1.at_=12:=by rw [e]
  have e3:K1.seq=K.seq+1:=by rw [e]
  have e4:K1.secs=K.secs.set i ⟨2,(K.seq:Int)+1,x⟩:=by rw [e]
  have hc:cc F K≤cc F K1+1:=by unfold cc;rw [e4,bf];exact (zau (opn F.lim) K.secs i ⟨2,(K.seq:Int)+1,x⟩ K.secs.length).2
  have h0:(if K.head = -1 then 0 else (F.z - K.at_) / 64)=0:=by
   split
   ·rfl
   ·rename_i hh;have:¬ K.at_+n≤F.z:=fun c=>hf ⟨hh,c⟩
    omega
  rw [h0,e1,e2,if_neg (show ¬ (i:Int) = -1 by omega)];have:5≤(F.z - (12+n)) / 64:=by omega
  exact ⟨by omega,by omega⟩
theorem ti {F:Fl} {K K1:StU} {n:Nat} (h:OpnN F K n K1):K1.ix=K.ix:=by rcases h with ⟨rfl,-⟩ | ⟨-,i,x,-,rfl⟩ <;> rfl
def PutIx (K K':StU) (key blob:Bs):Prop:=∃ (p:PlU) (c:Nat),p.blob=blob∧(findK key K.ix=none→K'.ix=K.ix++[(key,p,c)])∧(∀ x,findK key K.ix=some x→K'.ix=K.ix.modify x.1 fun e=>(key,p,e.2.2))
def DelIx (K K':StU) (key:Bs):Prop:=(findK key K.ix=none→K'.ix=K.ix)∧(∀ x,findK key K.ix=some x→K'.ix=K.ix.eraseIdx x.1)
def chN (c:ChU):Nat:=32+c.key.length+(if c.del then 0 else c.blob.length)
theorem size1 (c:ChU):sizes ([c].map ChU.toR)+16=chN c:=by
 show c.toR.size+0+16=_
 unfold chN RecU.size ChU.toR;cases c.del
 ·show 16+c.key.length+c.blob.length+0+16=32+c.key.length+c.blob.length
  omega
 ·show 16+c.key.length+0+0+16=32+c.key.length+0
  omega
theorem wrote1 {F:Fl} {K K1 K':StU} {hd:Nat} {A:List RV} {c:ChU} (ho:OpnN F K (chN c) K1) (hA:A.map Prod.fst=[c].map ChU.toR) (e:K'=wroteK K1 hd A) :
  StepN F K (chN c) K'∧(c.del=false→PutIx K K' c.key c.blob)∧(c.del=true→DelIx K K' c.key):=by
 obtain ⟨p,rfl⟩:∃ p,A=[p]:=by
  cases A with
  | nil =>
   have:=congrArg List.length hA;simp at this
  | cons p A =>
   cases A with
   | nil=>exact ⟨p,rfl⟩
   | cons q A =>
    have:=congrArg List.length hA;simp at this
 have hp1:p.1=c.toR:=by have:[p.1]=[c.toR]:=hA;injection this
 have hs:sizes (([p]:List RV).map Prod.fst)+16=chN c:=by rw [hA]; exact size1 c
 have hk:wroteK K1 hd [p]=StU.apply { K1 with txn:=K1.txn+1,at_:=K1.at_+sizes (([p]:List RV).map Prod.fst)+16 } hd K1.at_ (p.1.at (K1.txn+1)):=rfl;rw [hk] at e;obtain ⟨a1,a2,a3,-,a5,-⟩:=za0 { K1 with txn:=K1.txn+1,at_:=K1.at_+sizes (([p]:List RV).map Prod.fst)+16 } hd K1.at_ (p.1.at (K1.txn+1));refine ⟨⟨K1,ho,by rw [e,a1],by rw [e,a2],by rw [e,a3]; show K1.at_+sizes (([p]:List RV).map Prod.fst)+16=_; omega,by rw [e,a5]⟩,fun hc=>?_,fun hc=>?_⟩
 ·have ht:p.1.at (K1.txn+1)=⟨1,K1.txn+1,c.key,c.blob,0⟩:=by rw [hp1]; unfold ChU.toR; rw [hc]; rfl
  rw [ht] at e
  have hap:K'=StU.put { K1 with txn:=K1.txn+1,at_:=K1.at_+sizes (([p]:List RV).map Prod.fst)+16 } c.key ⟨hd,K1.at_,c.blob⟩:=by rw [e]; unfold StU.apply; rw [if_neg (show ¬ (1=2) by decide)]
  refine ⟨⟨hd,K1.at_,c.blob⟩,K1.clock,rfl,fun hn=>?_,fun x hx=>?_⟩
  ·rw [hap];unfold StU.put;have:findK c.key K1.ix=none:=by rw [ti ho]; exact hn
   simp only [this];rw [ti ho]
  ·rw [hap];unfold StU.put;have:findK c.key K1.ix=some x:=by rw [ti ho]; exact hx
   simp only [this];rw [ti ho]
 ·have ht:p.1.at (K1.txn+1)=⟨2,K1.txn+1,c.key,[],0⟩:=by rw [hp1]; unfold ChU.toR; rw [hc]; rfl
  rw [ht] at e
  have hap:K'=StU.del { K1 with txn:=K1.txn+1,at_:=K1.at_+sizes (([p]:List RV).map Prod.fst)+16 } c.key:=by rw [e]; unfold StU.apply; rw [if_pos rfl]
  refine ⟨fun hn=>?_,fun x hx=>?_⟩
  ·rw [hap];unfold StU.del;have:findK c.key K1.ix=none:=by rw [ti ho]; exact hn
   simp only [this];rw [ti ho]
  ·rw [hap];unfold StU.del;have:findK c.key K1.ix=some x:=by rw [ti ho]; exact hx
   simp only [this];rw [ti ho]
section
variable {kl:List Bs} {H:List AObj} {b:Nat} {I:SI} {F:Fl} {K:StU}
theorem p549o (h:SO kl H I F K) (hkl:∀ k ∈ kl,1≤k.length∧k.length≤64) (hb:I.lo b) (hbN:b≤H.length) (hFn:0 < F.n) {c:ChU} {la:Option (Nat × Nat)} {lc:Option Nat} (hR:Row H 3 ChU.cells [c] la) (hf:c.fine H∨c.fineD) (hck:c.key ∈ kl) (hlen:chN c≤(F.z - 12) / 2) (hG:AbsBlo.Good F K (chN c)) :
  ∃ H' F' K',∃ nx:Nat→Nat,StF I H H'∧SO kl H' I F' K'∧FlE F F'∧(∀ w,min w b≤nx w∧nx w≤I.hi)∧StepN F K (chN c) K'∧K'.head ≠ -1∧(c.del=false→PutIx K K' c.key c.blob)∧(c.del=true→DelIx K K' c.key) ∧
   ∀ w,xCall AbsBlo.T 549 [.ptr (some (I.s,0)),.slice la 1 lc] ⟨H,b,w⟩=some (.int .i64 0,⟨H',b,nx w⟩):=by
 have hs:=size1 c
 have hgc:GoodC F K [c]:=by refine ⟨?_,by rw [hs]; exact hlen,by rw [hs]; exact hG⟩;show ¬ (addK [] c.key).length < 1;unfold addK;simp
 obtain ⟨H',F',K',nx,k1,k2,k3,k4,⟨K1,hd,A,e1,-,e3,e4,e5⟩,k6⟩:=AbsBlo.p549x (lc:=lc) h hkl hb hbN hFn hR (List.cons_ne_nil _ _) (by show 1≤16; decide) (by
  rcases hf with hf | hf
  ·exact .inl fun c' hc'=>by rw [bq.1 hc']; exact hf
  ·exact .inr fun c' hc'=>by rw [bq.1 hc']; exact hf) (fun c' hc'=>by rw [bq.1 hc']; exact hck) hgc
 rw [hs] at e1;obtain ⟨w1,w2,w3⟩:=wrote1 e1 e3 e4;exact ⟨H',F',K',nx,k1,k2,k3,k4,w1,e5,w2,w3,k6⟩
end
end Go.Abs.AbsNat

namespace Go.Abs.AbsBlo
open Go.Abs.AbsBlb hiding T
open Go.Abs.Short
section
variable {kl:List Bs} {H:List AObj} {b:Nat} {I:SI} {F:Fl} {K:StU}
end
end Go.Abs.AbsBlo

namespace Go.Abs.AbsNat
open Go.Abs.AbsBlb hiding T
open Go.Abs.AbsBlo (GoodC Fits Kept CommitQ jk CodeD.run OpsD.run)
open Go.Abs.Short
theorem findK_mod {k:Bs} {p:PlU}:∀ {L:List Ent} {x:Nat × PlU},findK k L=some x→∃ n,findK k (L.modify x.1 fun e=>(k,p,e.2.2))=some (n,p)
 | [],x,h=>by cases h
 | e :: r,x,h=>by
  unfold findK at h;split at h
  ·cases h;refine ⟨0,?_⟩;rw [List.modify_zero_cons];unfold findK;rw [if_pos rfl]
  ·rename_i hne;rw [ae] at h;obtain ⟨y,hy,rfl⟩:=h;obtain ⟨n,hn⟩:=findK_mod (p:=p) hy;refine ⟨n+1,?_⟩;rw [List.modify_succ_cons];unfold findK;rw [if_neg hne,hn]; rfl
theorem findK_app {k:Bs} {p:PlU} {c:Nat}:∀ {L:List Ent},findK k L=none→∃ n,findK k (L++[(k,p,c)])=some (n,p)
 | [],_=>⟨0,by show (if k=k then _ else _)=_; rw [if_pos rfl]⟩
 | e :: r,h=>by
  unfold findK at h;split at h
  ·cases h
  ·rename_i hne;rw [zd] at h;obtain ⟨n,hn⟩:=findK_app (p:=p) (c:=c) h;exact ⟨n+1,by rw [d7]; unfold findK; rw [if_neg hne,hn]; rfl⟩
structure Codes (E:Env):Prop where
 t:AgreesX E T
 m:E.P.follows .mixedOrders=true
theorem Codes.b {E:Env} (h:Codes E):AgreesX E AbsBlo.T:=h.t.sub sub
section
variable {E:Env} {kl:List Bs} {H:List AObj} {b w:Nat} {I:SI} {F:Fl} {K:StU}
end
end Go.Abs.AbsNat

namespace Go.Abs.AbsBlo
open Go.Abs.AbsBlb hiding T
open Go.Abs.Short
section
variable {H:List AObj} {b w:Nat}
theorem s567 {p o n:Nat} {c:Option Nat} {X:List AVal} (hp:H[p]? = some (.cells 1 X)) (hX:X[o]? = some (.int .u8 255)) (hn:0 < n∧n≤262144) :
  xCall T 567 [.slice (some (p,o)) 1 c,.int .i64 n] ⟨H,b,w⟩=some (.slice (some (H.length,0)) n (some n),⟨H++[.cells 1 ((List.replicate n (255:UInt8)).map u8V)],b,w⟩):=by
 rw [xLib_eq' T t567 _ _ (F:=repF)];have hr:List.replicate n (AVal.int .u8 255)=(List.replicate n (255:UInt8)).map u8V:=by rw [List.map_replicate]; rfl
 have e1:(0:Int) < n∧(n:Int)≤262144:=by omega
 unfold repF;simp only [Heap.get,hp,hX,e1,and_self,if_true,Int.toNat_natCast,hr,b9,Heap.puts,List.foldl_nil,kz,Heap.push,Heap.size]
theorem s556 {n z lim:Nat} (hn:1≤n∧n≤64) (hz:64≤z∧z≤65536) (hl:1≤lim∧lim≤1048576) (hnz:n*z≤262144) :
  xCall T 556 [.agg [.int .i64 n,.int .i64 z,.int .i64 lim]] ⟨H,b,w⟩=some (.tuple [.ptr (some (H.length,0)),.int .i64 0],
   ⟨H++[.cells 9 [.int .i64 n,.int .i64 z,.int .i64 lim,.slice (some (H.length+1,0)) (n*z) (some (n*z)),.slice (some (H.length+2,0)) n (some n),.bool false,.int .i64 (-1),.int .i64 0,.int .u8 0],.cells 1 ((List.replicate (n*z) (255:UInt8)).map u8V),.cells 1 (List.replicate n (.int .i64 0))],b,w⟩):=by
 have h568:=fun (x lo hi:Int) P w=>du sub (s568 (H:=P) (b:=b) (w:=w) (x:=x) (lo:=lo) (hi:=hi))
 have q1:((1:Int)≤n)∧((n:Int)≤64):=by omega
 have q2:((64:Int)≤z)∧((z:Int)≤65536):=by omega
 have q3:((1:Int)≤lim)∧((lim:Int)≤1048576):=by omega
 obtain ⟨q1a,q1b⟩:=q1;obtain ⟨q2a,q2b⟩:=q2;obtain ⟨q3a,q3b⟩:=q3;have hmi:(n:Int)*(z:Int)=((n*z:Nat):Int):=(Int.natCast_mul n z).symm;have hnz0:0 < n*z:=Nat.mul_pos (by omega) (by omega);have h567:=fun w=>s567 (H:=H++[.cells 1 [.int .u8 255]]) (b:=b) (w:=w) (p:=H.length) (o:=0) (c:=some 1) (n:=n*z) (X:=[.int .u8 255]) (ga _ _) rfl ⟨hnz0,hnz⟩
 have hids:AVal.idsL ((List.replicate (n*z) (255:UInt8)).map u8V)=[]:=lz _;have hren:∀ g,AVal.renL g ((List.replicate (n*z) (255:UInt8)).map u8V)=(List.replicate (n*z) (255:UInt8)).map u8V:=fun g=>mg g _
 have hids2:AVal.idsL (List.replicate n (AVal.int .i64 0))=[]:=AbsBlb.idsL_none fun x hx=>by rw [List.eq_of_mem_replicate hx]; simp [AVal.ids]
 have hren2:∀ g,AVal.renL g (List.replicate n (AVal.int .i64 0))=List.replicate n (.int .i64 0):=fun g=>AbsBlb.renL_none fun x hx=>by rw [List.eq_of_mem_replicate hx]; simp [AVal.ren]
 simp only [aq,bt,ep,ed,az,d7,ff] at h567;generalize (List.replicate (n*z) (255:UInt8)).map u8V=Y at *;generalize n*z=nz at *;simp (maxSteps:=3000000) (disch:=omega) [-getElem?_pos,-getElem?_neg,-List.all_eq_true,qZ,qS,nltT,nltF,iltT,iltF,ileT,nleT,el,-sget,sgetN,zbh,sgetT,-fj,jf,jg,gu,bc t556,code556,h568,q1a,q1b,q2a,q2b,q3a,q3b,hmi,h567,mb,md,zbc,hids,hren,hids2,hren2,bz]
end
end Go.Abs.AbsBlo

namespace Go.Abs.AbsBlo
open Go.Abs.AbsBlb hiding T
open Go.Abs.Short
def z0:Sec:=⟨0,0,0⟩
def mtC (fl n z lim m:Nat) (x:AVal):List AVal:=[.ptr (some (fl,0)),.int .i64 n,.int .i64 z,.int .i64 lim,x,.map (some m),.int .i64 (-1),.int .i64 0,.int .u32 0,.int .u32 0,.bool false]
structure MT (H P:List AObj) (fl n z lim c2 s m i:Nat) (x:AVal):Prop where
  pre:Pre H P
  hc:P[c2]? = some (.cells 1 [.ptr (some (s,0))])
  hs:P[s]? = some (.cells 11 (mtC fl n z lim m x))
  hm:P[m]? = some (.map [] 0)
  hx:FRow H.length 3 Sec.cells (List.replicate i z0) P x
  nc:H.length≤c2
  ns:H.length≤s
  nm:H.length≤m
section
variable {H:List AObj} {b:Nat} {fi:FI} {F:Fl}
theorem zbo (h:FlA H fi F) (hb:∀ j,j < F.b.length→F.b[j]? = some 255) (hw:∀ i,i < F.n→F.w[i]? = some 0) {i:Nat} (hi:i < F.n):F.look i=z0:=by
  obtain ⟨h1,h2⟩:=h.sec_len hi;unfold Fl.look;rw [hw i hi,lookB_blank]
  · rfl
  · intro j hj
    rw [h1] at hj;rw [Fl.sec_get hj];exact hb _ (by omega)
section
attribute [-simp] getElem?_pos getElem?_neg List.all_eq_true
attribute [local simp] qZ qS nltT nltF iltT iltF ileT nleT el
theorem l555 (h:FlA H fi F) (hbk:∀ j,j < F.b.length→F.b[j]? = some 255) (hw:∀ i,i < F.n→F.w[i]? = some 0) (hz:12≤F.z) (hb:b≤H.length) {c2 s m:Nat}:∀ (j i:Nat) (P:List AObj) (x:AVal) (w:Nat),i+j=F.n→MT H P fi.fl F.n F.z F.lim c2 s m i x→H.length≤w →
    ∃ P' x' w',MT H P' fi.fl F.n F.z F.lim c2 s m F.n x'∧H.length≤w'∧∀ {β:Type} (k:AExit→St→Option β),
      xK T (.loop code555L0) ⟨[(0,.val (.ptr (some (fi.fl,0)))),(2,.val (.ptr (some (c2,0)))),(4,.val (.slice none 0 (some 0))),(22,.val (.int .i64 F.n)),(23,.val (.int .i64 i))],⟨P,b,w⟩⟩ (k:=⟨k⟩) =
        k (.exit 0) ⟨[(2,.val (.ptr (some (c2,0)))),(4,.val (.slice none 0 (some 0)))],⟨P',b,w'⟩⟩
  | 0,i,P,x,w,hi,hM,hw'=>by
    obtain rfl:i=F.n:=by omega
    refine ⟨P,x,w,hM,hw',fun k=>?_⟩;rw [cd];simp (disch:=omega) [code555L0]
  | j+1,i,P,x,w,hi,hM,hw'=>by
    have hnb:=h.nb.1;have hfP:FlA P fi F:=h.keep fun k o ho _=>hM.pre k o ho
    have hPl:=hM.pre.len;have hlk:=zbo h hbk hw (i:=i) (by omega);have h564:=fun w=>du sub (s564 (b:=b) (w:=w) hfP (i:=i) (by omega) hz (by omega))
    rw [hlk] at h564;have hzc:z0.cells=[.int .i64 0,.int .u32 0,.int .i64 0]:=rfl;rw [hzc] at h564;have hcl:=ah hM.hc;have hsl:=ah hM.hs;have hml:=ah hM.hm;have hrep:List.replicate i z0++[z0]=List.replicate (i+1) z0:=(List.replicate_succ' ..).symm;have hids:AVal.idsL ((List.replicate (i+1) z0).flatMap Sec.cells)=[]:=idsL_sec _;have hne1:c2≠s:=fun e=>by have:=hM.hc; rw [e,hM.hs] at this; simp [mtC] at this
    have hne2:m≠s:=fun e=>by have:=hM.hm; rw [e,hM.hs] at this; simp [mtC] at this
    have e2:((i+1:Nat):Int)=(i:Int)+1:=by omega
    have g1:=hM.hc;have g2:=hM.hs;unfold mtC at g2;have hsb:b≤s:=by have:=hM.ns; omega
    rcases hM.hx with ⟨e0,rfl⟩ | ⟨e0,q,hq,rfl,hrow⟩
    · have hi0:i=0:=by have:=congrArg List.length e0;simpa using this
      subst hi0
      have happ:∀ w,ex 3 24 ⟨P++[.cells 3 z0.cells],b,w⟩ (.slice none 0 (some 0)) (.slice (some (P.length,0)) 1 (some 1))=some (.slice (some (P.length+1,0)) 1 none,⟨P++[.cells 3 z0.cells,.cells 3 z0.cells],b,w⟩):=fun w=>by have hz:iw 3 ⟨P++[.cells 3 z0.cells],b,w⟩ (.slice (some (P.length,0)) 1 (some 1))=some z0.cells:=uv (by show (P++[AObj.cells 3 z0.cells])[P.length]? = _; rw [ga]; rfl) rfl;unfold ex;simp only [hz,xh,aApp,alen];simp [Heap.push,Heap.size]
      obtain ⟨P',x',w',i1,i2,i3⟩:=l555 h hbk hw hz hb (c2:=c2) (s:=s) (m:=m) j 1 ((P++[AObj.cells 3 z0.cells,AObj.cells 3 z0.cells]).set s (.cells 11 (mtC fi.fl F.n F.z F.lim m (.slice (some (P.length+1,0)) 1 none)))) (.slice (some (P.length+1,0)) 1 none) (min w s) (by omega)
        ⟨fun k o hk=>by have:=ah hk;have hns:=hM.ns;rw [av (by omega),ag (by omega)]; exact hM.pre k o hk,
         by rw [av hne1.symm,ag hcl]; exact hM.hc,
         eg (by rw [aq]; omega),
         by rw [av hne2.symm,ag hml]; exact hM.hm,
         .inr ⟨by decide,P.length+1,by omega,rfl,by rw [av (by omega),kj]; rfl⟩,hM.nc,hM.ns,hM.nm⟩ (by have:=hM.ns; omega)
      refine ⟨P',x',w',i1,i2,fun k=>?_⟩;have ih:=i3 k;have hn1:(1:Int)≤F.n:=by omega
      simp only [ba] at h564;rw [cd,← ih];have hg3:(P++[AObj.cells 3 z0.cells,.cells 3 z0.cells])[P.length+1]? = some (.cells 3 z0.cells):=kj _ _ 1;have hg4:=fun X=>(ag (l₂:=X) hsl).trans g2
      have hg5:=fun X=>(ag (l₂:=X) hcl).trans g1
      unfold mtC;rw [hzc] at happ hg3 ⊢;generalize ACode.loop code555L0=LL;simp (disch:=omega) [code555L0,-ex,-sget,sgetN,zbh,sgetT,-fj,jf,jg,gu,bz,h564,g1,g2,hg3,hg4,hg5,happ,hsb,hn1]
    · have hi0:0 < i:=by
        cases i with
        | zero=>exact absurd rfl e0
        | succ i=>omega
      simp only [br] at g2;have hql:=ah hrow;have hqs:q≠s:=fun e=>by rw [e,hM.hs] at hrow; simp [mtC] at hrow
      have hqc:q≠c2:=fun e=>by rw [e,hM.hc] at hrow; simp at hrow
      have hqm:q≠m:=fun e=>by rw [e,hM.hm] at hrow; simp at hrow
      have hflen:((List.replicate i z0).flatMap Sec.cells).length=i*3:=by rw [zbg Sec.cells 3 (fun _=>rfl)]; simp
      have hfl2:(List.replicate i z0).flatMap Sec.cells++z0.cells=(List.replicate (i+1) z0).flatMap Sec.cells:=by rw [← hrep,List.flatMap_append]; simp
      have happ:∀ w,ex 3 24 ⟨P++[.cells 3 z0.cells],b,w⟩ (.slice (some (q,0)) i none) (.slice (some (P.length,0)) 1 (some 1))=some (.slice (some (P.length+1,0)) (i+1) none,⟨P.set q .dead++[.cells 3 z0.cells,.cells 3 ((List.replicate (i+1) z0).flatMap Sec.cells)],b,min w q⟩):=fun w=>by
        have hz:iw 3 ⟨P++[.cells 3 z0.cells],b,w⟩ (.slice (some (P.length,0)) 1 (some 1))=some z0.cells:=uv (by show (P++[AObj.cells 3 z0.cells])[P.length]? = _; rw [ga]; rfl) rfl;have h5:(P++[AObj.cells 3 z0.cells])[q]? = some (.cells 3 ((List.replicate i z0).flatMap Sec.cells)):=by rw [ag hql]; exact hrow
        have hz1:iw 3 ⟨P++[.cells 3 z0.cells],b,w⟩ (.slice (some (q,0)) i none)=some ((List.replicate i z0).flatMap Sec.cells):=uv h5 hflen
        have hr:rowIs ⟨P++[.cells 3 z0.cells],b,w⟩ q 3=true:=by unfold rowIs Heap.get;simp only [h5];simp
        unfold ex;simp only [hz,hz1,aApp,alen];have q1:¬ (1:Nat)=0:=by decide
        have q2:(i+1)*24≤140737488355328∧i+1≤9223372036854775807:=⟨by omega,by omega⟩;have q3:¬ (none:Option Nat)=some i:=by simp
        have q4:(⟨P++[AObj.cells 3 z0.cells],b,w⟩:Heap).base≤q∧rowIs ⟨P++[AObj.cells 3 z0.cells],b,w⟩ q 3=true:=⟨by show b≤q; omega,hr⟩;have hs:(P++[AObj.cells 3 z0.cells]).length=P.length+1:=by simp
        simp only [eq_false q1,eq_true q2,eq_false q3,eq_true q4,if_false,if_true];simp only [Heap.push,Heap.put,Heap.size,oq _ _ hql,bf,hs,hfl2,az,d7,ff]
      have hl4:(P.set q .dead++[AObj.cells 3 z0.cells,.cells 3 ((List.replicate (i+1) z0).flatMap Sec.cells)]).length=P.length+2:=by simp
      have hl5:(P.set q AObj.dead).length=P.length:=bf
      have up:∀ k o,k≠q→P[k]? = some o→(P.set q .dead++[AObj.cells 3 z0.cells,.cells 3 ((List.replicate (i+1) z0).flatMap Sec.cells)])[k]? = some o:=fun k o hk ho=>by rw [ag (by rw [hl5]; exact ah ho),av (fun e=>hk e.symm)]; exact ho
      have hg3:(P.set q .dead++[AObj.cells 3 z0.cells,.cells 3 ((List.replicate (i+1) z0).flatMap Sec.cells)])[P.length+1]? = some (.cells 3 ((List.replicate (i+1) z0).flatMap Sec.cells)):=by rw [← hl5,kj]; rfl
      have hgq:(P.set q .dead++[AObj.cells 3 z0.cells,.cells 3 ((List.replicate (i+1) z0).flatMap Sec.cells)])[q]? = some .dead:=by rw [ag (by rw [hl5]; exact hql),eg hql]
      have us:=up _ _ hqs.symm hM.hs;have uc:=up _ _ hqc.symm hM.hc;have um:=up _ _ hqm.symm hM.hm;have upre:∀ k o,H[k]? = some o→(P.set q .dead++[AObj.cells 3 z0.cells,.cells 3 ((List.replicate (i+1) z0).flatMap Sec.cells)])[k]? = some o:=fun k o hk=>up k o (by have:=ah hk; omega) (hM.pre k o hk)
      obtain ⟨P',x',w',i1,i2,i3⟩:=l555 h hbk hw hz hb (c2:=c2) (s:=s) (m:=m) j (i+1) ((P.set q .dead++[AObj.cells 3 z0.cells,.cells 3 ((List.replicate (i+1) z0).flatMap Sec.cells)]).set s (.cells 11 (mtC fi.fl F.n F.z F.lim m (.slice (some (P.length+1,0)) (i+1) none)))) (.slice (some (P.length+1,0)) (i+1) none) (min (min w q) s) (by omega)
        ⟨fun k o hk=>by have:=ah hk;have hns:=hM.ns;rw [av (by omega)]; exact upre k o hk,
         by rw [av hne1.symm]; exact uc,
         eg (by rw [hl4]; omega),
         by rw [av hne2.symm]; exact um,
         .inr ⟨by simp,P.length+1,by omega,by rw [br],by rw [av (by omega)]; exact hg3⟩,hM.nc,hM.ns,hM.nm⟩ (by have:=hM.ns; omega)
      refine ⟨P',x',w',i1,i2,fun k=>?_⟩;have ih:=i3 k;rw [e2] at ih;have hni:(i:Int) < F.n:=by omega
      have hqne:¬ q=P.length+1:=by omega
      rw [cd,← ih];have hg4:=fun X=>(ag (l₂:=X) hsl).trans g2
      have hg5:=fun X=>(ag (l₂:=X) hcl).trans g1
      have hg6:=fun X=>(ag (l₂:=X) hql).trans hrow
      unfold mtC at us ⊢;rw [hzc] at happ hg3 us hl4 hgq ⊢;generalize (List.replicate (i+1) z0).flatMap Sec.cells=Y at *;generalize (List.replicate i z0).flatMap Sec.cells=Y0 at *;generalize ACode.loop code555L0=LL;simp (disch:=omega) [code555L0,-ex,-sget,sgetN,zbh,sgetT,-fj,jf,jg,gu,bz,h564,g1,g2,hg3,hg4,hg5,hg6,happ,hsb,hni,hids,hl4,hgq,us,hqne,hqc,hqs]
end
end
end Go.Abs.AbsBlo
