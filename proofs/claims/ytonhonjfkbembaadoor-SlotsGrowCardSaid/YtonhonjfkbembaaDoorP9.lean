/-
  Texts joined.
-/
import Derived.Test.YtonhonjfkbembaaDoorP0
import Derived.Test.YtonhonjfkbembaaDoorP6
import Derived.Test.YtonhonjfkbembaaDoorP8
import Derived.Test.YtonhonjfkbembaaDoorP7
set_option linter.unusedVariables false
set_option linter.unusedSimpArgs false
set_option maxRecDepth 100000
namespace Go.Abs
section
variable {E:Env} {T:Nat→Option AFunc}
def CallD (E:Env) (g:Nat) (args:List AVal) (h:Heap) (R:AVal→Heap→Prop):Prop :=
  ∀ f,E.gid f=some g→∀ (μ:MM) (w:World) (args':Array Value),VRels E μ args args'.toList→Rel E μ h w→CallsIn (F0 none) 0 E.P f args' w fun e w'=>∃ v h',R v h'∧Evol h h'∧Ends E μ w v h' e w'
def CodeD (E:Env) (c:ACode) (st:St) (Q:AExit→St→Prop):Prop :=
  ∀ (nt:Nat) (hint:Hint) (code:Code),cCode E nt false hint code=some c→(∀ p ∈ c.rounds,E.rnd p.1=some p.2)→∀ (lo:Nat) (μ0:MM) (w0:World) (ds:List Deferred) (a:Act) (w:World) (Qm:Exit→Act→World→Prop),At E lo nt μ0 w0 ds st.s st.h a w →
    (∀ e st',Q e st'→Evol st.h st'.h→∀ a' w',At E lo nt μ0 w0 ds st'.s st'.h a' w'→Qm e.toX a' w')→code.wpIn (F0 none) 0 E.P Qm a w
theorem CodeD.of_x (hT:Agrees E T) (hm:E.P.follows .mixedOrders=true) {c:ACode} {st st':St} {e:AExit} {Q:AExit→St→Prop} (h:xCode T c st=some (e,st')) (hq:Q e st'):CodeD E c st Q:=by
  intro nt hint code hcc hrd lo μ0 w0 ds a w Qm hat hn
  obtain ⟨n,hn'⟩:=(de T _ _ _).1 h
  exact code_sound (call_sound hT hm n) (jo T n) hT.gid hm false (fun _=>rfl) n hint code c hcc (fun _=>hrd) st e st' hn' a w Qm hat (hn e st' hq (kv (jo T n) n _ _ _ _ hn'))
theorem CodeD.of_wp (hT:Agrees E T) (hm:E.P.follows .mixedOrders=true) {c:ACode} {st:St} {Q:AExit→St→Prop} (h:Wp T c st Q):CodeD E c st Q:=by
  intro nt hint code hcc hrd lo μ0 w0 ds a w Qm hat hn
  obtain ⟨n,l,h1,_,h3⟩:=h
  exact outs_sound (call_sound hT hm n) (jo T n) hT.gid hm false (fun _=>rfl) n hint code c hcc (fun _=>hrd) st l h1 a w Qm hat fun y hy a' w' hat'=>hn y.1 y.2 (h3 y hy) (outs_evol (jo T n) n _ _ _ h1 y hy) a' w' hat'
theorem CodeD.mono {c:ACode} {st:St} {Q Q':AExit→St→Prop} (h:CodeD E c st Q) (hq:∀ e st',Q e st'→Evol st.h st'.h→Q' e st'):CodeD E c st Q' :=
  fun nt hint code hcc hrd lo μ0 w0 ds a w Qm hat hn=>h nt hint code hcc hrd lo μ0 w0 ds a w Qm hat fun e st' h1 h2=>hn e st' (hq e st' h1 h2) h2
theorem inv_seq {nt:Nat} {hint:Hint} {code:Code} {a b:ACode} (h:cCode E nt false hint code=some (.seq a b)) (hne:∀ d x,a ≠ .next d x):∃ ha hb x y,code = .seq x y∧cCode E nt false ha x=some a∧cCode E nt false hb y=some b:=by
  cases hint with
  | seq ha hb =>
    cases code <;> simp only [cCode,reduceCtorEq] at h
    rename_i x y
    split at h
    · rename_i p q h1 h2; cases h; exact ⟨_,_,_,_,rfl,h1,h2⟩
    · cases h
  | next =>
    obtain ⟨d,y,r,e⟩:=jt h
    cases e
    exact absurd rfl (hne d y)
  | live l a=>simp only [cCode,ae] at h; obtain ⟨_,_,h⟩:=h; cases h
  | after a l=>simp only [cCode,ae] at h; obtain ⟨_,_,h⟩:=h; cases h
  | stuck=>simp only [cCode] at h; cases h
  | leaf=>cases code <;> simp only [cCode] at h <;> cases h
  | reg s l=>cases code <;> simp only [cCode,ae,reduceCtorEq] at h; obtain ⟨_,_,h⟩:=h; cases h
  | cond a b =>
    cases code <;> simp only [cCode,reduceCtorEq] at h
    split at h <;> cases h
  | block a=>cases code <;> simp only [cCode,ae,reduceCtorEq] at h; obtain ⟨_,_,h⟩:=h; cases h
  | loop a=>cases code <;> simp only [cCode,ae,reduceCtorEq] at h; obtain ⟨_,_,h⟩:=h; cases h
  | rangeFunc g c a b =>
    cases code <;> simp only [cCode,reduceCtorEq] at h
    split at h
    · split at h <;> cases h
    · cases h
theorem CodeD.seq {a b:ACode} {st:St} {Q:AExit→St→Prop} (hne:∀ d x,a ≠ .next d x) (h:CodeD E a st fun e st'=>match e with | .normal=>CodeD E b st' Q | e=>Q e st'):CodeD E (.seq a b) st Q:=by
  intro nt hint code hcc hrd lo μ0 w0 ds t w Qm hat hn
  obtain ⟨ha,hb,x,y,rfl,h1,h2⟩:=inv_seq hcc hne
  apply wpIn_seq
  refine h nt ha x h1 (fun p hp=>hrd p (by simp [ACode.rounds,hp])) lo μ0 w0 ds t w _ hat fun e st' hq hev a' w' hat'=>?_
  cases e with
  | normal=>exact hq nt hb y h2 (fun p hp=>hrd p (by simp [ACode.rounds,hp])) lo μ0 w0 ds a' w' Qm hat' fun e2 st2 hq2 hev2=>hn e2 st2 hq2 (hev.trans hev2)
  | exit i=>exact hn _ _ hq hev _ _ hat'
  | ret=>exact hn _ _ hq hev _ _ hat'
theorem inv_cond {nt:Nat} {hint:Hint} {code:Code} {x:Opd} {a b:ACode} (h:cCode E nt false hint code=some (.cond x a b)) (hne:∀ v,x ≠ .const v):∃ ha hb c p q,code = .cond c p q∧cOpd E c=some x∧cCode E nt false ha p=some a∧cCode E nt false hb q=some b:=by
  cases hint with
  | cond ha hb =>
    cases code <;> simp only [cCode,reduceCtorEq] at h
    split at h
    · rename_i h0 h1 h2; cases h; exact ⟨_,_,_,_,_,rfl,h0,h1,h2⟩
    · cases h
  | next=>obtain ⟨d,y,r,e⟩:=jt h; cases e
  | live l a=>simp only [cCode,ae] at h; obtain ⟨_,_,h⟩:=h; cases h
  | after a l=>simp only [cCode,ae] at h; obtain ⟨_,_,h⟩:=h; cases h
  | stuck=>simp only [cCode] at h; cases h; exact absurd rfl (hne _)
  | leaf=>cases code <;> simp only [cCode] at h <;> cases h
  | reg s l=>cases code <;> simp only [cCode,ae,reduceCtorEq] at h; obtain ⟨_,_,h⟩:=h; cases h
  | seq a b =>
    cases code <;> simp only [cCode,reduceCtorEq] at h
    split at h <;> cases h
  | block a=>cases code <;> simp only [cCode,ae,reduceCtorEq] at h; obtain ⟨_,_,h⟩:=h; cases h
  | loop a=>cases code <;> simp only [cCode,ae,reduceCtorEq] at h; obtain ⟨_,_,h⟩:=h; cases h
  | rangeFunc g c a b =>
    cases code <;> simp only [cCode,reduceCtorEq] at h
    split at h
    · split at h <;> cases h
    · cases h
theorem CodeD.cond {t:Nat} {p:Bool} {a b:ACode} {st:St} {Q:AExit→St→Prop} (hx:(Opd.tmp t).ev st.s=some (.bool p)) (h:CodeD E (if p then a else b) st Q):CodeD E (.cond (.tmp t) a b) st Q:=by
  intro nt hint code hcc hrd lo μ0 w0 ds u w Qm hat hn
  obtain ⟨ha,hb,c,x,y,rfl,h0,h1,h2⟩:=inv_cond hcc (fun v=>by simp)
  have hat0:=hat
  obtain ⟨μ,ν,_,_,k3,_⟩:=hat
  have:=bz k3 h0 hx
  simp only [VRel] at this
  cases p
  · exact wpIn_cond_false this (h nt hb y h2 (fun p hp=>hrd p (by simp [ACode.rounds]; exact .inr (by simpa using hp))) lo μ0 w0 ds u w Qm hat0 hn)
  · exact wpIn_cond_true this (h nt ha x h1 (fun p hp=>hrd p (by simp [ACode.rounds]; exact .inl (by simpa using hp))) lo μ0 w0 ds u w Qm hat0 hn)
theorem inv_block {nt:Nat} {hint:Hint} {code:Code} {id:Nat} {a:ACode} (h:cCode E nt false hint code=some (.block id a)):∃ ha x,code = .block id x∧cCode E nt false ha x=some a:=by
  cases hint with
  | block ha =>
    cases code <;> simp only [cCode,ae,reduceCtorEq] at h
    obtain ⟨_,h1,h⟩:=h; cases h; exact ⟨_,_,rfl,h1⟩
  | next=>obtain ⟨d,y,r,e⟩:=jt h; cases e
  | live l a=>simp only [cCode,ae] at h; obtain ⟨_,_,h⟩:=h; cases h
  | after a l=>simp only [cCode,ae] at h; obtain ⟨_,_,h⟩:=h; cases h
  | stuck=>simp only [cCode] at h; cases h
  | leaf=>cases code <;> simp only [cCode] at h <;> cases h
  | reg s l=>cases code <;> simp only [cCode,ae,reduceCtorEq] at h; obtain ⟨_,_,h⟩:=h; cases h
  | seq a b =>
    cases code <;> simp only [cCode,reduceCtorEq] at h
    split at h <;> cases h
  | cond a b =>
    cases code <;> simp only [cCode,reduceCtorEq] at h
    split at h <;> cases h
  | loop a=>cases code <;> simp only [cCode,ae,reduceCtorEq] at h; obtain ⟨_,_,h⟩:=h; cases h
  | rangeFunc g c a b =>
    cases code <;> simp only [cCode,reduceCtorEq] at h
    split at h
    · split at h <;> cases h
    · cases h
theorem inv_loop {nt:Nat} {hint:Hint} {code:Code} {a:ACode} (h:cCode E nt false hint code=some (.loop a)):∃ ha x,code = .loop x∧cCode E nt false ha x=some a:=by
  cases hint with
  | loop ha =>
    cases code <;> simp only [cCode,ae,reduceCtorEq] at h
    obtain ⟨_,h1,h⟩:=h; cases h; exact ⟨_,_,rfl,h1⟩
  | next=>obtain ⟨d,y,r,e⟩:=jt h; cases e
  | live l a=>simp only [cCode,ae] at h; obtain ⟨_,_,h⟩:=h; cases h
  | after a l=>simp only [cCode,ae] at h; obtain ⟨_,_,h⟩:=h; cases h
  | stuck=>simp only [cCode] at h; cases h
  | leaf=>cases code <;> simp only [cCode] at h <;> cases h
  | reg s l=>cases code <;> simp only [cCode,ae,reduceCtorEq] at h; obtain ⟨_,_,h⟩:=h; cases h
  | seq a b =>
    cases code <;> simp only [cCode,reduceCtorEq] at h
    split at h <;> cases h
  | cond a b =>
    cases code <;> simp only [cCode,reduceCtorEq] at h
    split at h <;> cases h
  | block a=>cases code <;> simp only [cCode,ae,reduceCtorEq] at h; obtain ⟨_,_,h⟩:=h; cases h
  | rangeFunc g c a b =>
    cases code <;> simp only [cCode,reduceCtorEq] at h
    split at h
    · split at h <;> cases h
    · cases h
theorem inv_live {nt:Nat} {hint:Hint} {code:Code} {l:List Nat} {a:ACode} (h:cCode E nt false hint code=some (.live l a)):∃ ha,cCode E nt false ha code=some a:=by
  cases hint with
  | live l a=>simp only [cCode,ae] at h; obtain ⟨_,h1,h⟩:=h; cases h; exact ⟨_,h1⟩
  | next=>obtain ⟨d,y,r,e⟩:=jt h; cases e
  | after a l=>simp only [cCode,ae] at h; obtain ⟨_,_,h⟩:=h; cases h
  | stuck=>simp only [cCode] at h; cases h
  | leaf=>cases code <;> simp only [cCode] at h <;> cases h
  | reg s l=>cases code <;> simp only [cCode,ae,reduceCtorEq] at h; obtain ⟨_,_,h⟩:=h; cases h
  | seq a b =>
    cases code <;> simp only [cCode,reduceCtorEq] at h
    split at h <;> cases h
  | cond a b =>
    cases code <;> simp only [cCode,reduceCtorEq] at h
    split at h <;> cases h
  | block a=>cases code <;> simp only [cCode,ae,reduceCtorEq] at h; obtain ⟨_,_,h⟩:=h; cases h
  | loop a=>cases code <;> simp only [cCode,ae,reduceCtorEq] at h; obtain ⟨_,_,h⟩:=h; cases h
  | rangeFunc g c a b =>
    cases code <;> simp only [cCode,reduceCtorEq] at h
    split at h
    · split at h <;> cases h
    · cases h
theorem inv_after {nt:Nat} {hint:Hint} {code:Code} {l:List Nat} {a:ACode} (h:cCode E nt false hint code=some (.after a l)):∃ ha,cCode E nt false ha code=some a:=by
  cases hint with
  | after a l=>simp only [cCode,ae] at h; obtain ⟨_,h1,h⟩:=h; cases h; exact ⟨_,h1⟩
  | next=>obtain ⟨d,y,r,e⟩:=jt h; cases e
  | live l a=>simp only [cCode,ae] at h; obtain ⟨_,_,h⟩:=h; cases h
  | stuck=>simp only [cCode] at h; cases h
  | leaf=>cases code <;> simp only [cCode] at h <;> cases h
  | reg s l=>cases code <;> simp only [cCode,ae,reduceCtorEq] at h; obtain ⟨_,_,h⟩:=h; cases h
  | seq a b =>
    cases code <;> simp only [cCode,reduceCtorEq] at h
    split at h <;> cases h
  | cond a b =>
    cases code <;> simp only [cCode,reduceCtorEq] at h
    split at h <;> cases h
  | block a=>cases code <;> simp only [cCode,ae,reduceCtorEq] at h; obtain ⟨_,_,h⟩:=h; cases h
  | loop a=>cases code <;> simp only [cCode,ae,reduceCtorEq] at h; obtain ⟨_,_,h⟩:=h; cases h
  | rangeFunc g c a b =>
    cases code <;> simp only [cCode,reduceCtorEq] at h
    split at h
    · split at h <;> cases h
    · cases h
theorem CodeD.block {id:Nat} {c:ACode} {st:St} {Q:AExit→St→Prop} (h:CodeD E c st fun e st'=>Q (blkE id e) st'):CodeD E (.block id c) st Q:=by
  intro nt hint code hcc hrd lo μ0 w0 ds u w Qm hat hn
  obtain ⟨ha,x,rfl,h1⟩:=inv_block hcc
  apply wpIn_block
  refine h nt ha x h1 hrd lo μ0 w0 ds u w _ hat fun e st' hq hev a' w' hat'=>?_
  have:=hn _ _ hq hev a' w' hat'
  cases e with
  | normal=>exact this
  | ret=>exact this
  | exit j =>
    simp only [AExit.toX,Exit.inBlock]
    simp only [blkE] at this
    split
    · rename_i hj; rw [if_pos hj] at this; exact this
    · rename_i hj; rw [if_neg hj] at this; exact this
theorem CodeD.live {l:List Nat} {c:ACode} {st:St} {Q:AExit→St→Prop} (h:CodeD E c ⟨keepK l st.s,st.h⟩ Q):CodeD E (.live l c) st Q:=by
  rw [keepK_eq] at h
  intro nt hint code hcc hrd lo μ0 w0 ds u w Qm hat hn
  obtain ⟨ha,h1⟩:=inv_live hcc
  exact h nt ha code h1 hrd lo μ0 w0 ds u w Qm (hat.keep l) hn
theorem CodeD.after {l:List Nat} {c:ACode} {st:St} {Q:AExit→St→Prop} (h:CodeD E c st fun e st'=>match e with | .normal=>Q .normal ⟨keepK l st'.s,st'.h⟩ | e=>Q e st'):CodeD E (.after c l) st Q:=by
  intro nt hint code hcc hrd lo μ0 w0 ds u w Qm hat hn
  obtain ⟨ha,h1⟩:=inv_after hcc
  refine h nt ha code h1 hrd lo μ0 w0 ds u w _ hat fun e st' hq hev a' w' hat'=>?_
  cases e with
  | normal =>
    simp only at hq
    rw [keepK_eq] at hq
    exact hn _ _ hq hev _ _ (hat'.keep l)
  | exit i=>exact hn _ _ hq hev _ _ hat'
  | ret=>exact hn _ _ hq hev _ _ hat'
theorem CodeD.loop {c:ACode} {Q:AExit→St→Prop} (Inv:Nat→St→Prop) (step:∀ k st,Inv k st→CodeD E c st fun e st'=>match e with | .normal=>∃ j,j < k∧Inv j st' | e=>Q e st') (k:Nat) (st:St) (h0:Inv k st):CodeD E (.loop c) st Q:=by
  intro nt hint code hcc hrd lo μ0 w0 ds u w Qm hat hn
  obtain ⟨ha,x,rfl,h1⟩:=inv_loop hcc
  have key:∀ (n k:Nat) (st1:St) (a:Act) (w:World),k < n→Inv k st1→Evol st.h st1.h→At E lo nt μ0 w0 ds st1.s st1.h a w→Code.roundsIn (F0 none) 0 E.P x Qm n a w:=by
    intro n
    induction n with
    | zero=>intro k st1 a w hk; omega
    | succ n ih =>
      intro k st1 a w hk hi hev hat1
      rw [roundsIn_succ]
      refine step k st1 hi nt ha x h1 hrd lo μ0 w0 ds a w _ hat1 fun e st2 hq hev2 a' w' hat'=>?_
      cases e with
      | normal =>
        obtain ⟨j,hj,hi'⟩:=hq
        exact ih j st2 a' w' (by omega) hi' (hev.trans hev2) hat'
      | exit i=>exact hn _ _ hq (hev.trans hev2) _ _ hat'
      | ret=>exact hn _ _ hq (hev.trans hev2) _ _ hat'
  exact wpIn_loop_rounds (k+1) (key (k+1) k st u w (by omega) h0 (Evol.refl _) hat)
inductive OpsD (E:Env) (T:Nat→Option AFunc) (K:Slots→Heap→Prop):List AOper→Slots→Heap→Prop
  | done {s:Slots} {h:Heap}:K s h→OpsD E T K [] s h
  | op {o:AOper} {r:List AOper} {s s1:Slots} {h h1:Heap}:evOper (xCall T) o s h=some (s1,h1)→OpsD E T K r s1 h1→OpsD E T K (o :: r) s h
  | call {o:AOper} {r:List AOper} {s:Slots} {h:Heap} {g:Nat} {xs:List Opd} {vs:List AVal} {R:AVal→Heap→Prop}:o.guard=none→o.op = .callg g xs→evs s xs=some vs→CallD E g vs h R→(∀ v h',R v h'→OpsD E T K r (setSlot o.dst (.val v) s) h')→OpsD E T K (o :: r) s h
theorem OpsD.ops {K:Slots→Heap→Prop}:∀ {l r:List AOper} {s s1:Slots} {h h1:Heap},evOps (xCall T) l s h=some (s1,h1)→OpsD E T K r s1 h1→OpsD E T K (l++r) s h
  | [],r,s,s1,h,h1,e,k=>by simp only [evOps] at e; cases e; exact k
  | o :: l,r,s,s1,h,h1,e,k=>by
    simp only [evOps] at e
    split at e
    case h_2=>cases e
    rename_i s2 h2 e2
    exact .op e2 (OpsD.ops e k)
section
variable {lo nt:Nat} {μ0:MM} {w0:World} {ds:List Deferred} {s:Slots} {h:Heap} {a:Act} {w:World} {ops:Array Oper} {Q:Exit→Act→World→Prop}
theorem run_soundD (hg:GidOK E) {loc:Bool} {o:Oper} {o':AOper} {g:Nat} {xs:List Opd} {vs:List AVal} {R:AVal→Heap→Prop} (hop:cOper E nt ops loc o=some o') (hcall:o'.op = .callg g xs) (hgd:o'.guard=none) (hvs:evs s xs=some vs) (hcd:CallD E g vs h R)
    (hat:At E lo nt μ0 w0 ds s h a w) {next:Act→World→Prop} (hn:∀ v h',R v h'→Evol h h'→∀ a' w',At E lo nt μ0 w0 ds (setSlot o'.dst (.val v) s) h' a' w'→next a' w') :
    if Region.wanted o (yielded ops a.tmps) then o.wpIn (F0 none) 0 E.P a w next Q else next (a.put o.dst Go.undef) w:=by
  unfold cOper at hop
  split at hop
  case isFalse=>cases hop
  rename_i hh
  simp only [aw,dm,eg] at hh
  have hd:∀ t,o.dst=some t→t < nt:=fun t ht=>by have:=hh.1; rw [ht] at this; simpa using this
  split at hop
  case h_2 =>
    exfalso
    split at hop
    case h_2=>cases hop
    cases hop
    cases hgd
  rename_i hg0
  cases hop
  have hw:Region.wanted o (yielded ops a.tmps)=true:=by simp [Region.wanted,hg0]
  rw [if_pos hw]
  simp only at hcall hn
  have hao:cOp E loc o.op=some (.callg g xs):=by
    cases hco:cOp E loc o.op with
    | some ao=>rw [cOpS,hco] at hcall; simpa using hcall
    | none=>rw [cOpS,hco] at hcall; simp at hcall
  obtain ⟨μ,ν,k1,k2,k3,k4,k5,k6⟩:=hat
  have hnd:∀ c,o.op ≠ .defer c:=fun c hc'=>by rw [hc'] at hao; simp [cOp] at hao
  refine ⟨fun _ _=>trivial,?_⟩
  rw [Oper.semAt_eq _ _ _ hnd]
  have hcop:∃ c,o.op = .call c∧cCall E c=some (.callg g xs):=by
    cases ho:o.op with
    | call c=>exact ⟨c,rfl,by rw [ho] at hao; simpa only [cOp] using hao⟩
    | makeFunc fn x1 x2 =>
      rw [ho] at hao
      exfalso
      cases fn <;> simp only [cOp] at hao <;> (try (cases hao; done))
      split at hao <;> cases hao
    | makeMap t hint =>
      rw [ho] at hao
      exfalso
      cases hint with
         | none=>simp [cOp] at hao
         | some y =>
           cases y with
           | const v=>cases v <;> simp only [cOp] at hao <;> first | (cases hao; done) | (split at hao <;> cases hao)
           | _=>simp [cOp] at hao
    | _ =>
      rw [ho] at hao
      exfalso
      simp only [cOp,cBin,cConv,cEq] at hao
      repeat' split at hao
      all_goals first
        | (cases hao; done)
        | (rw [ae] at hao; obtain ⟨_,_,hao⟩:=hao; first | (cases hao; done) | (split at hao <;> cases hao))
  obtain ⟨c,hcop,hcc⟩:=hcop
  unfold cCall at hcc
  split at hcc
  · rename_i f hcal
    split at hcc
    case h_2 =>
      exfalso
      rw [ae] at hcc
      obtain ⟨_,_,hcc⟩:=hcc
      cases hcc
    case h_3=>cases hcc
    rename_i g' as hgf has
    cases hcc
    have hargs:=jb k3 has hvs
    have hrun:(execOp a.eval o).run E.P w = .ok (.enter f (c.args.map a.eval)) w:=by
      have:=i9 hg hgf (c.args.map a.eval) w
      simp [execOp,hcop,resolve,hcal,Act.eval,Deferred.ofValue,invoke,this]
    rw [hrun,Oper.uponIn_enter]
    refine ⟨fun hh=>by simp [F0,Fence.wide] at hh,?_⟩
    refine CallsIn.mono (F:=F0 none) (n:=0) (hcd f hgf μ w (c.args.map a.eval) (by simpa using hargs) k2) fun e w' he=>?_
    obtain ⟨v,h',hR,hevol,v',μ',rfl,j1,j2,j3⟩:=he
    refine hn v h' hR hevol _ _ ⟨μ',ν,?_,j3,?_,by rw [put_size]; exact k4,by rw [kb]; exact k5,du k6 j1.size⟩
    · exact k1.trans (j1.weaken (ak _) fun b hb _=>hb.elim) hevol.wmin
    · rw [gt]
      exact ((k3.step j1 fun b _ hb=>hb).setVal (fun y hy=>by rw [k4]; exact hd y hy) j2).congr fun t=>ik _ _ _ _
  · exfalso
    split at hcc
    case h_2=>cases hcc
    cases hcc
  · exfalso
    repeat' split at hcc
    all_goals first
      | (cases hcc; done)
      | (rw [ae] at hcc; obtain ⟨_,_,hcc⟩:=hcc; cases hcc)
  · cases hcc
theorem opD_sound (hT:Agrees E T) (hm:E.P.follows .mixedOrders=true) {loc:Bool} {o:Oper} {o':AOper} {r:List AOper} {K:Slots→Heap→Prop} (hop:cOper E nt ops loc o=some o') (hev:OpsD E T K (o' :: r) s h)
    (hat:At E lo nt μ0 w0 ds s h a w) {next:Act→World→Prop} (hn:∀ s1 h1,OpsD E T K r s1 h1→Evol h h1→∀ a' w',At E lo nt μ0 w0 ds s1 h1 a' w'→next a' w') :
    if Region.wanted o (yielded ops a.tmps) then o.wpIn (F0 none) 0 E.P a w next Q else next (a.put o.dst Go.undef) w:=by
  cases hev with
  | op e k =>
    obtain ⟨n,e⟩:=evOper_lim T e
    exact oper_sound (call_sound hT hm n) (jo T n) hT.gid hop e hat (hn _ _ k (jz (jo T n) e))
  | call h1 h2 h3 h4 h5=>exact run_soundD hT.gid hop h2 h1 h3 h4 hat fun v h' hR=>hn _ _ (h5 v h' hR)
theorem opsD_sound (hT:Agrees E T) (hm:E.P.follows .mixedOrders=true) {locs:List Nat} {K:Slots→Heap→Prop} {h0:Heap} (hn:∀ s' h',K s' h'→Evol h0 h'→∀ a' w',At E lo nt μ0 w0 ds s' h' a' w'→Q .normal a' w'):∀ (l:List Oper) (i:Nat) (as:List AOper) (s:Slots) (h:Heap) (a:Act) (w:World),
    ops.toList.drop i=l→cOpers E nt ops locs i l=some as→OpsD E T K as s h→Evol h0 h→At E lo nt μ0 w0 ds s h a w→wpOpsIn (F0 none) 0 E.P ops Q (List.range' i l.length) a w
  | [],i,as,s,h,a,w,_,hcs,hev,h0,hat=>by
    simp only [cOpers] at hcs; cases hcs
    cases hev with
    | done k=>exact hn _ _ k h0 _ _ hat
  | o :: l,i,as,s,h,a,w,hd,hcs,hev,h0,hat=>by
    simp only [cOpers] at hcs
    split at hcs
    case h_2=>cases hcs
    rename_i o' as' ho has
    cases hcs
    have hi:ops[i]? = some o:=by
      have:=congrArg (fun l=>l[0]?) hd
      simpa using this
    have hd':ops.toList.drop (i+1)=l:=by
      have:=congrArg List.tail hd
      simpa using this
    simp only [az,List.range'_succ,wpOpsIn,hi]
    have:=opD_sound (Q:=Q) hT hm ho hev hat fun s1 h1 k e a' w' hat'=>opsD_sound hT hm hn l (i+1) as' s1 h1 a' w' hd' has k (h0.trans e) hat'
    split
    · rename_i hw; rw [if_pos hw] at this; exact this
    · rename_i hw; rw [if_neg hw] at this; exact ⟨fun _ _=>trivial,this⟩
theorem seqD_any (hT:Agrees E T) (hm:E.P.follows .mixedOrders=true) {locs:List Nat} {as:List AOper} (has:cOpers E nt ops locs 0 ops.toList=some as) (hb:edgesBack ops=true) {K:Slots→Heap→Prop} {h0:Heap} :
    ∀ (n p:Nat) (s:Slots) (h:Heap) (listed:Array Bool) (a:Act) (w:World),p+n≤as.length→(∀ x,x≤n→p+x < as.length→waits (befs ops.toList []) (p+x)=true) →
    OpsD E T K ((as.drop p).take n) s h→Evol h0 h→Exact ops listed p→At E lo nt μ0 w0 ds s h a w →
    (∀ s1 h1,K s1 h1→Evol h0 h1→∀ listed' a' w',Exact ops listed' (p+n)→At E lo nt μ0 w0 ds s1 h1 a' w'→wpAnyIn (F0 none) 0 E.P .any ops Q (ops.size - (p+n)) listed' a' w')→wpAnyIn (F0 none) 0 E.P .any ops Q (ops.size - p) listed a w
  | 0,p,s,h,listed,a,w,_,_,hev,h0,hex,hat,hk=>by
    rw [List.take_zero] at hev
    cases hev with
    | done k=>exact hk _ _ k h0 listed a w hex hat
  | n+1,p,s,h,listed,a,w,hpn,hw,hev,h0,hex,hat,hk=>by
    obtain ⟨q1,q2⟩:=jc _ _ _ has
    have hp:p < ops.size:=by rw [q1] at hpn; simp at hpn; omega
    have hop:ops[p]? = some ops[p]:=by simp [hp]
    obtain ⟨o',ho',hco⟩:=q2 p ops[p] (by simp [hp])
    have hdrop:as.drop p=o' :: as.drop (p+1):=by
      have hpl:=aj ho'
      rw [dq hpl]
      congr 1
      rw [ag hpl] at ho'
      exact b9 ho'
    rw [hdrop,List.take_succ_cons] at hev
    have hchain:=kg (ops:=ops) ops.toList [] (by simp) (fun k i hk=>by simp at hk)
    have hblen:=jh ops.toList []
    have hsz:ops.size - p=(ops.size - (p+1))+1:=by omega
    rw [hsz]
    refine ⟨fun hr=>?_,fun i hi=>?_⟩
    · have h3:=all_listed hb hex.1 hr p hp
      rw [hex.2 p hp] at h3
      simp at h3
    · obtain ⟨oi,k1,k2,k3⟩:=ready_mem hex.1 hi
      have his:i < ops.size:=aj (l:=ops.toList) (by simpa using k1)
      have hip:p≤i:=by
        have:=hex.2 i his
        rw [k2] at this
        simpa using this
      have hieq:p=i:=by
        rcases a9 p i with h4 | h4
        · exfalso
          have hbit:=waits_at (hw 1 (by omega) (by rw [q1]; simp; omega)) (j:=i) (i:=p) (by rw [hblen]; simpa using his) (by omega) (by omega)
          have hl:=gi (hex.down hb) (hchain _ _ hbit) fun o e ho he hbb=>by rw [k1] at ho; cases ho; exact k3 e he hbb
          rw [hex.2 p hp] at hl
          simp at hl
        · omega
      subst hieq
      rw [hop] at k1; cases k1
      refine wpOp_of hop (opD_sound hT hm hco hev hat fun s1 h1 k e a' w' hat'=>?_)
      have e1:p+1+n=p+(n+1):=by omega
      refine seqD_any hT hm has hb n (p+1) s1 h1 _ a' w' (by omega) (fun x hx hl=>?_) k (h0.trans e) hex.next hat' ?_
      · have:=hw (x+1) (by omega) (by omega)
        rwa [show p+1+x=p+(x+1) by omega]
      · rw [e1]; exact hk
end
theorem inv_region {nt:Nat} {hint:Hint} {code:Code} {gs:List Seg} (h:cCode E nt false hint code=some (.region gs)):∃ segs locs id ops draw,code = .region id ops draw∧cRegion E nt segs locs ops draw=some gs:=by
  cases hint with
  | reg s l =>
    cases code <;> simp only [cCode,ae,reduceCtorEq] at h
    obtain ⟨_,h1,h⟩:=h; cases h; exact ⟨_,_,_,_,_,rfl,h1⟩
  | next=>obtain ⟨d,y,r,e⟩:=jt h; cases e
  | live l a=>simp only [cCode,ae] at h; obtain ⟨_,_,h⟩:=h; cases h
  | after a l=>simp only [cCode,ae] at h; obtain ⟨_,_,h⟩:=h; cases h
  | stuck=>simp only [cCode] at h; cases h
  | leaf=>cases code <;> simp only [cCode] at h <;> cases h
  | seq a b =>
    cases code <;> simp only [cCode,reduceCtorEq] at h
    split at h <;> cases h
  | cond a b =>
    cases code <;> simp only [cCode,reduceCtorEq] at h
    split at h <;> cases h
  | block a=>cases code <;> simp only [cCode,ae,reduceCtorEq] at h; obtain ⟨_,_,h⟩:=h; cases h
  | loop a=>cases code <;> simp only [cCode,ae,reduceCtorEq] at h; obtain ⟨_,_,h⟩:=h; cases h
  | rangeFunc g c a b =>
    cases code <;> simp only [cCode,reduceCtorEq] at h
    split at h
    · split at h <;> cases h
    · cases h
theorem CodeD.region (hT:Agrees E T) (hm:E.P.follows .mixedOrders=true) {l:List AOper} {st:St} {Q:AExit→St→Prop} (hl:OpsD E T (fun s h=>Q .normal ⟨s,h⟩) l st.s st.h):CodeD E (.region [⟨false,[],l⟩]) st Q:=by
  intro nt hint code hcc hrd lo μ0 w0 ds a w Qm hat hn
  obtain ⟨segs,locs,id,ops,draw,rfl,hcr⟩:=inv_region hcc
  unfold cRegion at hcr
  split at hcr
  case h_2=>cases hcr
  rename_i as has
  split at hcr
  · rename_i hd
    subst hd
    split at hcr
    case isFalse=>cases hcr
    rename_i hh
    simp only [aw] at hh
    apply wpIn_region_any hm
    have hat':At E lo nt μ0 w0 ds st.s st.h a { w with drawn:=w.drawn+1 }:=by
      obtain ⟨μ,ν,k1,k2,k3,k4,k5,k6⟩:=hat
      exact ⟨μ,ν,k1.heap rfl rfl rfl rfl,k2.same rfl rfl rfl,k3.heap rfl,k4,k5,k6⟩
    obtain ⟨q1,_⟩:=jc _ _ _ has
    simp only [ff] at q1
    cases segs with
    | nil =>
      unfold splitSegs at hcr
      split at hcr
      · cases hcr
      · cases hcr
      · rename_i e _; cases e
    | cons x r =>
      obtain ⟨q,n⟩:=x
      simp only [splitSegs] at hcr
      split at hcr
      case isFalse=>cases hcr
      rw [ae] at hcr
      obtain ⟨gs',hsp,he⟩:=hcr
      injection he with he1 he2
      injection he1 with e1 e2 e3
      subst e1
      subst he2
      cases r with
      | cons x r =>
        obtain ⟨q',n'⟩:=x
        simp only [splitSegs] at hsp
        split at hsp
        · rw [ae] at hsp
          obtain ⟨_,_,he⟩:=hsp
          cases he
        · cases hsp
      | nil =>
        have hok:=hh.2
        simp only [segsOk,aw,decide_eq_true_eq,beq_iff_eq] at hok
        obtain ⟨⟨a2,a3⟩,a5⟩:=hok
        refine seqD_any (h0:=st.h) hT hm has hh.1 n 0 st.s st.h _ a _ (by omega) (fun x hx hlt=>?_) (by simpa [e3] using hl) (Evol.refl _) ⟨by simp,fun i hi=>by simp [hi]⟩ hat' fun s1 h1 k e listed' a' w' hex' hat''=>?_
        · rw [al] at a3
          exact a3 x (cw.2 (by omega))
        · have hp:0+n=ops.size:=by omega
          rw [hp,Nat.sub_self]
          rw [hp] at hex'
          refine ⟨?_,hn _ _ k e _ _ hat''⟩
          apply List.eq_nil_iff_forall_not_mem.2
          intro i hi
          obtain ⟨o,k1,k2,_⟩:=ready_mem hex'.1 hi
          have his:i < ops.size:=aj (l:=ops.toList) (by simpa using k1)
          rw [hex'.2 i his] at k2
          simp [his] at k2
  · rename_i hd
    have:draw=false:=by simpa using hd
    subst this
    cases hcr
    apply wpIn_region
    have:=opsD_sound (Q:=Qm) (h0:=st.h) hT hm (fun s' h' k e a' w' hat'=>hn .normal ⟨s',h'⟩ k e a' w' hat') ops.toList 0 l st.s st.h a w rfl has hl (Evol.refl _) hat
    rw [List.range_eq_range']
    simpa using this
def IsCode (E:Env) (g:Nat) (af:AFunc):Prop:=∀ f,E.gid f=some g→∃ fn hint closed,E.P.funcs[f]? = some fn∧cFunc E closed hint fn=some af∧RndOK E af.body.rounds
theorem CallD.of_code {g:Nat} {af:AFunc} (hF:IsCode E g af) {args:List AVal} {h:Heap} {R:AVal→Heap→Prop} (hl:args.length=af.nargs)
    (hb:CodeD E af.body ⟨enter 0 args,{ h with wmin:=h.size }⟩ fun e st=>∃ v h',funcEnd af h (e,st)=some (v,h')∧R v h'):CallD E g args h R:=by
  intro f hgid μ w args' ha hr
  obtain ⟨fn,hint,closed,hf,hcf,hrd⟩:=hF f hgid
  unfold cFunc at hcf
  split at hcf
  case h_2=>cases hcf
  rename_i c hbody
  split at hcf
  case h_2=>cases hcf
  rename_i ac rs hac hrs
  split at hcf
  case isFalse=>cases hcf
  rename_i hsz
  cases hcf
  simp only at hl
  have hal:args'.size=args.length:=by have:=ha.length; simp at this; exact this.symm
  have hat:At E w.heap.size fn.ntmps μ w [] (enter 0 args) { h with wmin:=h.size } { tmps:=args'++Array.replicate (fn.ntmps - args'.size) undef,defers:=[] } w:=by
    refine ⟨μ,⟨fun _=>0,[]⟩,Step.refl _ _ _ _,hr.same rfl rfl rfl,?_,?_,rfl,ak _⟩
    · have hval:∀ (t:Nat) (x:Slot),sget (enter 0 args) t=some x→∃ v,x = .val v∧args[t]? = some v:=fun t x hx=>by
        rw [enter_get] at hx
        simp at hx
        obtain ⟨v,h1,h2⟩:=hx
        exact ⟨v,h2.symm,h1⟩
      constructor
      · intro t v hv
        obtain ⟨v1,e,h1⟩:=hval t _ hv
        cases e
        obtain ⟨v',h2,h3⟩:=ha.get h1
        refine ⟨v',?_,h3⟩
        have hlt:=aj h1
        rw [Array.getElem?_append_left (by omega)]
        simpa using h2
      · intro t hx; obtain ⟨_,e,_⟩:=hval t _ hx; cases e
      · intro t cs hx; obtain ⟨_,e,_⟩:=hval t _ hx; cases e
      · intro t t' o cs hx; obtain ⟨_,e,_⟩:=hval t _ hx; cases e
      · intro t t' cs cs' _ hx; obtain ⟨_,e,_⟩:=hval t _ hx; cases e
      · intro t cs i m hx; obtain ⟨_,e,_⟩:=hval t _ hx; cases e
      · intro r hr; cases hr
      · intro r hr; cases hr
      · exact ⟨List.nodup_nil,hr.tab.1⟩
    · simp; omega
  refine callsIn_of_wp_marks hf hbody trivial ?_
  refine hb fn.ntmps hint c hac hrd.of w.heap.size μ w [] _ w _ hat fun e st' hq hevol a' w' hat'=>?_
  obtain ⟨v,h',he,hR⟩:=hq
  have hev2:Evol h h':=funcEnd_evol hevol he
  have key:((resultsL st'.s st'.h rs).map fun vs=>finish h (tupled vs) st'.h)=some (v,h')→LeavesInM (F0 none) 0 E.P fn a'.tmps (fun e w'=>∃ v h',R v h'∧Evol h h'∧Ends E μ w v h' e w') a'.defers .returning w':=by
    intro h2
    rw [ae] at h2
    obtain ⟨vs,h2,h3⟩:=h2
    obtain ⟨μ1,ν1,k1,k2,k3,k4,k5,k6⟩:=hat'
    rw [k5,cz]
    refine leaves_marks hrs h2 (fun v' w2 r2 k1' k2'=>?_) ν1.ds ν1.v w' k1 k2 k3
    obtain ⟨μ2,s1,s2,s3⟩:=finish_sound rfl hr k1' k2' r2 hevol
    rw [h3] at s1 s2 s3
    exact ⟨v,h',hR,hev2,v',μ2,rfl,s1,s2,s3⟩
  cases e with
  | normal=>exact key he
  | ret=>exact key he
  | exit id=>simp [funcEnd] at he
theorem CodeD.of_k (hT:Agrees E T) (hm:E.P.follows .mixedOrders=true) {c:ACode} {st:St} {Q:AExit→St→Prop} (h:xK T c st (k:=⟨fun e st=>okIf (Q e st)⟩)=some ()):CodeD E c st Q:=by
  unfold xK at h
  cases hx:xCode T c st with
  | none=>rw [hx] at h; cases h
  | some p =>
    rw [hx] at h
    exact CodeD.of_x hT hm hx (okIf_iff.1 h)
end
end Go.Abs

namespace Go.Abs.AbsSlot
open Go.Abs.AbsHier
abbrev Nm:=Str × Str
def keyN (k:Nm):AVal:=.agg [.str k.1,.str k.2]
def intV (x:Int):AVal:=.int .i64 x
theorem keyKeyN:KeyF keyN:=fun a c=>by
 obtain ⟨a1,a2⟩:=a
 obtain ⟨c1,c2⟩:=c
 by_cases h1:a1=c1
 ·by_cases h2:a2=c2
  ·simp [keyN,akey,akeyL,akey1,h1,h2]
  ·simp [keyN,akey,akeyL,akey1,h1,h2]
 ·simp [keyN,akey,akeyL,akey1,h1]
abbrev nObj (A:List (Nm × Int)):AObj:=mObj keyN intV A
theorem ents_get {A:List (Nm × Int)}:∀ {i j:Nat} {x:AVal × AVal × Nat},(ents keyN intV i A)[j]? = some x ↔ ∃ y,A[j]? = some y∧x=(keyN y.1,intV y.2,i+j):=by
 induction A with
 | nil=>intro i j x; simp [ents]
 | cons a A ih =>
  intro i j x
  cases j with
  | zero=>simp [ents]; exact eq_comm
  | succ j =>
   simp only [ents,fp,ih]
   have:i+1+j=i+(j+1):=by omega
   rw [this]
theorem ents_find {A:List (Nm × Int)}:∀ {i j:Nat} {y:Nm × Int},A[j]? = some y→(ents keyN intV i A).find? (fun e=>e.2.2 == i+j)=some (keyN y.1,intV y.2,i+j):=by
 induction A with
 | nil=>intro i j y h; simp at h
 | cons a A ih =>
  intro i j y h
  cases j with
  | zero=>simp at h; subst h; simp [ents]
  | succ j =>
   simp only [fp] at h
   have h1:=ih (i:=i+1) h
   have e:i+1+j=i+(j+1):=by omega
   rw [e] at h1
   simp only [ents]
   rw [List.find?_cons_of_neg (by simp),h1]
def come {α:Type} (A:List α) (seen:List Nat):List α:=seen.filterMap fun j=>A[j]?
theorem come_snoc {α:Type} {A:List α} {seen:List Nat} {j:Nat} {y:α} (h:A[j]? = some y):come A (seen++[j])=come A seen++[y]:=by
 simp [come,List.filterMap_append,h]
theorem come_range {α:Type}:∀ A:List α,come A (List.range A.length)=A
 | []=>rfl
 | a :: A=>by
  have ih:=come_range A
  unfold come at ih ⊢
  rw [az,List.range_succ_eq_map,List.filterMap_cons_some (f:=fun j=>(a :: A)[j]?) (b:=a) (by simp),List.filterMap_map]
  congr 1
theorem come_perm {α:Type} {A:List α} {seen:List Nat} (h1:seen.Nodup) (h2:∀ j ∈ seen,j < A.length) (h3:∀ j,j < A.length→j ∈ seen):(come A seen).Perm A:=by
 have:seen.Perm (List.range A.length):=(List.perm_ext_iff_of_nodup h1 List.nodup_range).2 fun j=>by
  rw [cw]; exact ⟨h2 j,h3 j⟩
 have:=this.filterMap fun j=>A[j]?
 exact this.trans (by rw [show List.filterMap (fun j=>A[j]?) (List.range A.length)=come A (List.range A.length) from rfl,come_range])
theorem getE_come {A:List (Nm × Int)} (hn:(A.map Prod.fst).Nodup) {seen:List Nat} {j:Nat} {y:Nm × Int} (h:A[j]? = some y) (hj:j ∉ seen):getE (come A seen) y.1=none:=by
 rw [getE_none]
 intro x hx e
 unfold come at hx
 rw [List.mem_filterMap] at hx
 obtain ⟨i,hi,hix⟩:=hx
 have:i=j:=by
  have h1:(A.map Prod.fst)[i]? = some y.1:=by rw [cq,hix,← e]; rfl
  have h2:(A.map Prod.fst)[j]? = some y.1:=by rw [cq,h]; rfl
  exact (List.getElem?_inj (aj h1) hn).1 (h1.trans h2.symm)
 exact hj (this ▸ hi)
theorem come_len {α:Type} {A:List α}:∀ {seen:List Nat},(∀ j ∈ seen,j < A.length)→(come A seen).length=seen.length
 | [],_=>rfl
 | j :: seen,h=>by
  have hj:=h j (a8 ..)
  have ih:=come_len (A:=A) (seen:=seen) fun i hi=>h i (bh _ hi)
  unfold come at ih ⊢
  rw [List.filterMap_cons_some (ag hj),az,az,ih]
section
variable {O:List AObj} {b w:Nat} {x0 x1 x2 x8 x9:AVal} {it m1 m2:Nat} {A:List (Nm × Int)}
def cpH (O:List AObj) (it m2:Nat) (d:AObj) (A:List (Nm × Int)):List AObj:=(O.set it d).set m2 (nObj A)
def cpS (x0 x1 x2 x8 x9:AVal) (it m2:Nat):Slots:=[(0,.val x0),(1,.val x1),(2,.val x2),(8,.val x8),(9,.val x9),(10,.val (.map (some m2))),(94,.val (.ptr (some (it,0))))]
section
attribute [-simp] getElem?_pos getElem?_neg
theorem cp_loop (hn:(A.map Prod.fst).Nodup) (h1:O[m1]? = some (nObj A)) (hi:it < O.length) (hm:m2 < O.length) (hne:it≠m2) (hne1:m1≠it) (hne2:m1≠m2) (hb1:b≤it) (hb2:b≤m2) :
  Wp T (.loop code161L1) ⟨cpS x0 x1 x2 x8 x9 it m2,⟨cpH O it m2 (.mapIter (some m1) A.length [] A.length) [],b,w⟩⟩
   (fun e st=>e = .exit 0∧∃ B w',B.Perm A∧min (min w it) m2≤w'∧w'≤w∧st=⟨[(0,.val x0),(1,.val x1),(2,.val x2),(8,.val x8),(9,.val x9),(10,.val (.map (some m2)))],⟨cpH O it m2 .dead B,b,w'⟩⟩):=by
 let I:Nat→St→Prop:=fun m st=>∃ seen w',seen.Nodup∧(∀ j ∈ seen,j < A.length)∧m+seen.length=A.length∧min (min w it) m2≤w'∧w'≤w ∧
  st=⟨cpS x0 x1 x2 x8 x9 it m2,⟨cpH O it m2 (.mapIter (some m1) A.length seen A.length) (come A seen),b,w'⟩⟩
 refine Wp_loop I (fun m st hI=>?_) A.length _ ⟨[],w,by simp,by simp,by simp,by omega,ak _,rfl⟩
 obtain ⟨seen,w1,s1,s2,s3,s4,s5,rfl⟩:=hI
 have g1:∀ D B,(cpH O it m2 D B)[m1]? = some (nObj A):=fun D B=>by
  unfold cpH
  rw [ai (Ne.symm hne2),ai (Ne.symm hne1),h1]
 have g2:∀ D B,(cpH O it m2 D B)[it]? = some D:=fun D B=>by
  unfold cpH
  rw [ai (Ne.symm hne),d7,if_pos rfl,if_pos hi]
 have g3:∀ D B,(cpH O it m2 D B)[m2]? = some (nObj B):=fun D B=>by
  unfold cpH
  rw [d7,if_pos rfl,if_pos (by simpa using hm)]
 have u1:∀ D D' B,(cpH O it m2 D B).set it D'=cpH O it m2 D' B:=fun D D' B=>by
  unfold cpH
  rw [List.set_comm _ _ hne.symm,gr]
 have u2:∀ D B B',(cpH O it m2 D B).set m2 (nObj B')=cpH O it m2 D B':=fun D B B'=>by
  unfold cpH
  rw [gr]
 unfold code161L1
 refine Wp_live ?_
 refine Wp_seq (Wp_after (Wp_seq ?_))
 refine Wp_next (m:=m1) (i:=it) (since:=A.length) (last:=A.length) (clock:=A.length) (seen:=seen) (es:=ents keyN intV 0 A) (by simp [cpS]) (by show b≤_; omega) (by simp only [Heap.get]; exact g2 _ _) (by simp only [Heap.get]; exact g1 _ _) (fun e he=>?_) (ak _) (fun hall=>?_) (fun e he hne'=>?_)
 ·obtain ⟨j,hj⟩:=dt he
  obtain ⟨y,hy,rfl⟩:=ents_get.1 hj
  have:=aj hy
  show 0+j < _
  omega
 ·have hp:=come_perm s1 s2 fun j hj=>by
   obtain ⟨y,hy⟩:∃ y,A[j]? = some y:=⟨_,ag hj⟩
   have:=hall _ (au (ents_get (i:=0).2 ⟨y,hy,rfl⟩))
   simpa using this
  refine Wp_x rfl ?_
  simp (disch:=omega) [-List.all_eq_true,gz,gs,nltT,nltF,iltT,iltF,ileT,nleT,dh,u1,cpS]
  refine Wp_x rfl ?_
  have hw:it≤w1∨w1 < it:=by omega
  simp (disch:=omega) [cpS]
  exact ⟨_,hp,_,by omega,by omega,rfl,rfl⟩
 ·obtain ⟨j,hj⟩:=dt he
  obtain ⟨y,hy,rfl⟩:=ents_get.1 hj
  simp only [bt] at hne' ⊢
  have hjl:=aj hy
  have hfd:=ents_find (i:=0) hy
  simp only [bt] at hfd
  have hup:=fun D w=>upd_new (b:=b) (w:=w) (kn:=.agg [.s,.s]) keyKeyN (g3 D (come A seen)) (k:=y.1) y.2 rfl hb2 (getE_come hn hy hne')
  simp only [u2,← come_snoc hy] at hup
  have hn2:(seen++[j]).Nodup:=by
   rw [List.nodup_append]
   exact ⟨s1,by simp,fun a ha c hc=>by simp at hc; subst hc; exact fun h=>hne' (h ▸ ha)⟩
  have hl2:∀ i ∈ seen++[j],i < A.length:=fun i hi=>by
   rcases bg.1 hi with hi | hi
   ·exact s2 i hi
   ·simp at hi; subst hi; exact hjl
  have hlen:seen.length+1≤A.length:=by
   have:=come_len hl2
   have h4:=((List.perm_ext_iff_of_nodup hn2 ((List.filter_sublist (p:=fun j'=>(seen++[j]).contains j')).nodup (List.nodup_range (n:=A.length)))).2 fun i=>by
    rw [gd,cw]
    exact ⟨fun h=>⟨hl2 i h,by simpa using h⟩,fun h=>by simpa using h.2⟩).length_eq
   have h5:=List.length_filter_le (fun j'=>(seen++[j]).contains j') (List.range A.length)
   rw [← h4] at h5
   simpa using h5
  have hfin:∀ w',min (min w it) m2≤w'→w'≤w→∃ j',j' < m∧I j' ⟨cpS x0 x1 x2 x8 x9 it m2,⟨cpH O it m2 (.mapIter (some m1) A.length (seen++[j]) A.length) (come A (seen++[j])),b,w'⟩⟩:=fun w' q1 q2 =>
   ⟨m - 1,by omega,seen++[j],w',hn2,hl2,by simp; omega,q1,q2,rfl⟩
  have hfin:=hfin (min w1 (min it m2)) (by omega) (by omega)
  have hen:∀ B w,evExt .entry [.ptr (some (it,0))] ⟨cpH O it m2 (.mapIter (some m1) A.length (seen++[j]) A.length) B,b,w⟩=some (.tuple [keyN y.1,intV y.2],⟨cpH O it m2 (.mapIter (some m1) A.length (seen++[j]) A.length) B,b,w⟩):=fun B w=>by
   simp only [evExt,Heap.get,g2,g1,mObj,List.getLast?_append,List.getLast?_singleton,Option.some_or,if_true,hfd,bi]
  unfold cpS at hfin ⊢
  simp only [keyN,intV] at hup hen
  refine Wp_x rfl ?_
  simp (disch:=omega) [-List.all_eq_true,gz,gs,nltT,nltF,iltT,iltF,ileT,nleT,dh,u1]
  refine Wp_x rfl ?_
  simp (disch:=omega) [-List.all_eq_true,gz,gs,nltT,nltF,iltT,iltF,ileT,nleT,dh,-evExt,g1,g2,g3,hup,hen,hfin]
end
end
end Go.Abs.AbsSlot

namespace Go.Abs
theorem row_flat {α:Type} {e:Nat} {f:α→List AVal} {cs:List AVal}:∀ (L:List α) (o:Nat),(∀ (j:Nat) (x:α),L[j]? = some x→o+j*e+e≤cs.length∧(cs.drop (o+j*e)).take e=f x)→(cs.drop o).take (L.length*e)=L.flatMap f
 | [],o,_=>by simp
 | x :: L,o,h=>by
  have h0:=(h 0 x rfl).2
  rw [Nat.zero_mul,ef] at h0
  have ih:=row_flat L (o+e) fun j y hy=>by
   have:=h (j+1) y hy
   rw [fb,Nat.one_mul,Nat.add_comm (j*e) e,← cf] at this
   exact this
  rw [az,fb,Nat.one_mul,Nat.add_comm,List.take_add,bu,h0,jp,ih]
theorem rowOf_row {α:Type} {e:Nat} {f:α→List AVal} {h:Heap} {L:List α} {a:Option (Nat × Nat)} {c:Option Nat} (hR:Row h.objs e f L a):rowOf e h (.slice a L.length c)=some (L.flatMap f):=by
 by_cases hL:L=[]
 ·subst hL
  cases a with
  | none=>rfl
  | some p=>rfl
 ·obtain ⟨b,o,cs,h1,h2,h3⟩:=hR.at' hL
  subst h1
  have hl:L.length≠0:=fun e=>hL (b8 e)
  have hg:h.get b=some (.cells e cs):=h2
  unfold rowOf
  simp only
  rw [if_neg hl,hg]
  simp only
  obtain ⟨x,hx⟩:∃ x,L[L.length - 1]? = some x:=⟨_,ag (by omega)⟩
  have hb:=(h3 _ _ hx).1
  have he:(L.length - 1)*e+e=L.length*e:=by
   rw [← Nat.succ_mul]; congr 1; omega
  have h2:True∧o+L.length*e≤cs.length:=⟨trivial,by omega⟩
  rw [if_pos h2,row_flat L o h3]
theorem rowOf0 {e:Nat} {h:Heap} {a:Option (Nat × Nat)} {c:Option Nat}:rowOf e h (.slice a 0 c)=some []:=by
 cases a with
 | none=>rfl
 | some p=>rfl
theorem rowOfC {e n:Nat} {h:Heap} {i:Nat} {cs:List AVal} {c:Option Nat} (hg:h.objs[i]? = some (.cells e cs)) (hn:cs.length=n*e):rowOf e h (.slice (some (i,0)) n c)=some cs:=by
 unfold rowOf
 simp only
 split
 ·rename_i h0
  subst h0
  rw [Nat.zero_mul] at hn
  rw [b8 hn]
 ·have hg':h.get i=some (.cells e cs):=hg
  rw [hg']
  simp only
  have h2:True∧0+n*e≤cs.length:=⟨trivial,by omega⟩
  rw [if_pos h2,d8,← hn,List.take_length]
theorem sgetN (t:Nat):sget [] t=none:=by simp
theorem sgetH (t:Nat) (x:Slot) (r:Slots):sget ((t,x) :: r) t=some x:=by simp
theorem sgetT (u t:Nat) (x:Slot) (r:Slots) (h:u≠t):sget ((u,x) :: r) t=sget r t:=by simp [h]
end Go.Abs

namespace Go.Abs.AbsSlot
open Go.Abs.AbsHier
section
variable {α:Type} {e:Nat} {f:α→List AVal}
theorem flat_get (e:Nat) (hf:∀ y,(f y).length=e):∀ (L:List α) (j:Nat) (x:α),L[j]? = some x→j*e+e≤(L.flatMap f).length∧((L.flatMap f).drop (j*e)).take e=f x
 | [],j,x,h=>by simp at h
 | z :: L,0,x,h=>by
  simp at h; subst h
  have:=hf z
  rw [bu,Nat.zero_mul,d8,List.take_append_of_le_length (by omega),dx (by omega),bc]
  exact ⟨by omega,rfl⟩
 | z :: L,j+1,x,h=>by
  have:=hf z
  obtain ⟨h1,h2⟩:=flat_get e hf L j x (by simpa using h)
  rw [bu,bc,fb,Nat.one_mul]
  refine ⟨by omega,?_⟩
  have h3:(f z++L.flatMap f).drop (j*e+e)=(L.flatMap f).drop (j*e):=by
   rw [List.drop_append,bq (show (f z).length≤j*e+e by omega),c9]
   congr 1; omega
  rw [h3]
  exact h2
def RV (e:Nat) (f:α→List AVal) (lo:Nat) (H:List AObj) (L:List α) (a:Option (Nat × Nat)) (c:Option Nat):Prop :=
 (L=[]∧a=none∧c=some 0)∨(L≠[]∧∃ p,lo≤p∧a=some (p,0)∧c=none∧H[p]? = some (.cells e (L.flatMap f)))
theorem RV.nil {lo:Nat} {H:List AObj}:RV e f lo H [] none (some 0):=.inl ⟨rfl,rfl,rfl⟩
theorem RV.keep {lo:Nat} {H H':List AObj} {L:List α} {a:Option (Nat × Nat)} {c:Option Nat} (h:RV e f lo H L a c) (hk:∀ p q o,a=some (p,q)→H[p]? = some o→H'[p]? = some o):RV e f lo H' L a c:=by
 rcases h with h | ⟨h1,p,h2,h3,h4,h5⟩
 ·exact .inl h
 ·exact .inr ⟨h1,p,h2,h3,h4,hk p 0 _ h3 h5⟩
theorem RV.le {lo lo':Nat} {H:List AObj} {L:List α} {a:Option (Nat × Nat)} {c:Option Nat} (h:RV e f lo H L a c) (hl:lo'≤lo):RV e f lo' H L a c:=by
 rcases h with h | ⟨h1,p,h2,h3,h4,h5⟩
 ·exact .inl h
 ·exact .inr ⟨h1,p,by omega,h3,h4,h5⟩
theorem RV.row {lo:Nat} {H:List AObj} {L:List α} {a:Option (Nat × Nat)} {c:Option Nat} (h:RV e f lo H L a c) (hf:∀ y,(f y).length=e):Row H e f L a:=by
 rcases h with ⟨rfl,rfl,rfl⟩ | ⟨h1,p,h2,rfl,h4,h5⟩
 ·exact ⟨fun h=>absurd rfl h⟩
 ·refine ⟨fun _=>⟨p,0,_,rfl,h5,fun j x hj=>?_⟩⟩
  have:=flat_get (f:=f) e hf L j x hj
  rw [bt]
  exact ⟨this.1,this.2⟩
theorem RV.lt {lo:Nat} {H:List AObj} {L:List α} {a:Option (Nat × Nat)} {c:Option Nat} (h:RV e f lo H L a c) {p q:Nat} (ha:a=some (p,q)):lo≤p∧p < H.length∧q=0:=by
 rcases h with ⟨_,h,_⟩ | ⟨_,p',h2,h3,_,h5⟩
 ·rw [h] at ha; cases ha
 ·rw [h3] at ha; cases ha; exact ⟨h2,aj h5,rfl⟩
def nxA (a:Option (Nat × Nat)) (w:Nat):Nat:=match a with
 | none=>w
 | some (p,_)=>min w p
theorem RV.add {lo b:Nat} {H:List AObj} {L:List α} {a:Option (Nat × Nat)} {c:Option Nat} (h:RV e f lo H L a c) (hf:∀ y,(f y).length=e) (hlo:lo≤H.length) (hb:b≤lo) {by':Nat} (hl:(L.length+1)*by'≤140737488355328) (hl2:L.length≤1000000000) (x:α) :
  ∃ H',RV e f lo H' (L++[x]) (some (H.length+1,0)) none∧H.length+2=H'.length∧(∀ k o,H[k]? = some o→(∀ q,a≠some (k,q))→H'[k]? = some o)∧(∀ w m,m≤w→m≤lo→m≤nxA a w)∧(∀ w,nxA a w≤w)∧(∀ p q,a=some (p,q)→H'[p]? = some .dead) ∧
   ∀ w,aAppend e by' ⟨H++[.cells e (f x)],b,w⟩ (.slice a L.length c) (.slice (some (H.length,0)) 1 (some 1))=some (.slice (some (H.length+1,0)) (L.length+1) none,⟨H',b,nxA a w⟩):=by
 have hz:∀ w,rowOf e ⟨H++[.cells e (f x)],b,w⟩ (.slice (some (H.length,0)) 1 (some 1))=some (f x):=fun w =>
  rowOfC (by show (H++[AObj.cells e (f x)])[H.length]? = _; simp) (by rw [hf,Nat.one_mul])
 have hne:L++[x]≠[]:=by simp
 rcases h with ⟨rfl,rfl,rfl⟩ | ⟨h1,i,h2,rfl,rfl,h4⟩
 ·refine ⟨H++[.cells e (f x),.cells e (f x)],.inr ⟨hne,H.length+1,by omega,rfl,rfl,by rw [eb]; simp⟩,by simp,fun k o hk _=>by rw [ah (aj hk)]; exact hk,fun w m h1 _=>h1,fun w=>ak _,fun p q h=>(by cases h),fun w=>?_⟩
  unfold aAppend
  simp only [hz,co,rowOf0,aApp,alen]
  have q1:¬ (1:Nat)=0:=by decide
  have q2:(0+1)*by'≤140737488355328∧0+1≤9223372036854775807:=⟨by simpa using hl,by decide⟩
  simp only [eq_false q1,eq_true q2,if_false,if_true]
  simp [Heap.push,Heap.size,nxA]
 ·have hi:=aj h4
  have h5:(H++[AObj.cells e (f x)])[i]? = some (.cells e (L.flatMap f)):=by rw [ah hi]; exact h4
  have hfl:(L.flatMap f).length=L.length*e:=i8 f e hf L
  have hz1:∀ w,rowOf e ⟨H++[.cells e (f x)],b,w⟩ (.slice (some (i,0)) L.length none)=some (L.flatMap f):=fun w=>rowOfC h5 hfl
  have hr:∀ w,rowIs ⟨H++[.cells e (f x)],b,w⟩ i e=true:=fun w=>by
   unfold rowIs Heap.get
   simp only [h5]
   simp
  refine ⟨H.set i .dead++[.cells e (f x),.cells e ((L++[x]).flatMap f)],.inr ⟨hne,H.length+1,by omega,rfl,rfl,?_⟩,by simp,fun k o hk hne=>?_,fun w m h1 h3=>by show m≤min w i; omega,fun w=>iq _ _,fun p q h=>(by cases h; rw [ah (by rw [br]; exact hi),bv hi]),fun w=>?_⟩
  ·rw [aq (by simp)]
   simp
  ·rw [ah (by rw [br]; exact aj hk),ai (fun e=>hne 0 (by rw [e]))]; exact hk
  ·unfold aAppend
   simp only [hz,hz1,aApp,alen]
   have q1:¬ (1:Nat)=0:=by decide
   have q2:(L.length+1)*by'≤140737488355328∧L.length+1≤9223372036854775807:=⟨hl,by omega⟩
   have q3:(b≤i∧True):=⟨by omega,trivial⟩
   simp only [eq_false q1,eq_true q2,if_false,if_true,hr]
   simp only [reduceCtorEq,if_false]
   rw [if_pos (by simpa using (show b≤i by omega))]
   simp [Heap.push,Heap.put,Heap.size,List.set_append_left,hi,nxA]
theorem flat_at (hf:∀ y,(f y).length=e) {L:List α} {j:Nat} {x:α} (h:L[j]? = some x) {k:Nat} (hk:k < e):(L.flatMap f)[j*e+k]? = (f x)[k]?:=by
 have:=(flat_get (f:=f) e hf L j x h).2
 exact i7 this hk
theorem iz:∀ {L:List α} {j:Nat} {x y:α} {k:Nat} {v:AVal},(∀ y,(f y).length=e)→L[j]? = some x→k < e→f y=splice (f x) k [v]→splice (L.flatMap f) (j*e+k) [v]=(L.set j y).flatMap f
 | [],j,x,y,k,v,_,h,_,_=>by simp at h
 | z :: L,0,x,y,k,v,hf,h,hk,hx=>by
  simp at h; subst h
  have hl:=hf z
  simp only [List.set_cons_zero,bu,hx]
  simp only [splice,Nat.zero_mul,bt,az,co]
  rw [List.take_append_of_le_length (by omega),List.drop_append_of_le_length (by omega)]
  simp
 | z :: L,j+1,x,y,k,v,hf,h,hk,hx=>by
  simp at h
  have hl:=hf z
  have ih:=iz hf h hk hx
  simp only [List.set_cons_succ,bu]
  rw [← ih]
  simp only [splice,az,co]
  have e1:(j+1)*e+k=(f z).length+(j*e+k):=by rw [fb,hl]; omega
  rw [e1,List.take_append,List.drop_append,dx (by omega),bq (by omega)]
  have e2:(f z).length+(j*e+k) - (f z).length=j*e+k:=by omega
  have e3:(f z).length+(j*e+k)+(0+1) - (f z).length=j*e+k+(0+1):=by omega
  rw [e2,e3]
  simp
end
end Go.Abs.AbsSlot

namespace Go.Abs.AbsHier
open Go.Abs.AbsDesc
variable {os O:List AObj} {b w:Nat} {N:Nat} {S:List (Str × Str)} {F M:List (Key × Mem)} {V:List (Key × Bool)}
def isS (S:List (Str × Str)) (c d:Str):Bool:=(lineS S S.length c).any fun x=>decide (x=d)
theorem s30 {s:Str}:xCall T 30 [.str s] ⟨os,b,w⟩=some (.bool (isRef s),⟨os,b,w⟩):=jd sub AbsDesc.s30
end Go.Abs.AbsHier

namespace Go.Abs.AbsHier
open Go.Abs.AbsDesc
variable {os O H:List AObj} {b w:Nat}
theorem j7 {α:Type} {L:List α} {i:Nat} {x:α} (h:L[i]? = some x):L.drop i=x :: L.drop (i+1):=by
 have:=aj h
 rw [ag this] at h
 rw [dq this,b9 h]
def fieldAt (L:List FieldU) (n d:Str):Option FieldU:=L.find? fun x=>decide (x.name=n) && decide (x.desc=d)
def methAt (L:List MethU) (n d:Str):Option MethU:=L.find? fun x=>decide (x.name=n) && decide (x.desc=d)
end Go.Abs.AbsHier

namespace Go.Abs.AbsSlot
open Go.Abs.AbsHier Go.Abs.AbsDesc
open Go.Abs.Short
section
variable {κ ν:Type} [DecidableEq κ]
def putE:List (κ × ν)→κ→ν→List (κ × ν)
 | [],k,v=>[(k,v)]
 | x :: r,k,v=>if x.1=k then (k,v) :: r else x :: putE r k v
theorem putE_new {A:List (κ × ν)} {k:κ} {v:ν} (h:getE A k=none):putE A k v=A++[(k,v)]:=by
 induction A with
 | nil=>rfl
 | cons x A ih =>
  simp only [getE] at h
  split at h
  ·cases h
  ·rename_i hne
   simp only [putE,if_neg hne,db,ih h]
theorem putE_old {kf:κ→AVal} {vf:ν→AVal} (hk:KeyF kf) {k:κ} {v:ν}:∀ {A:List (κ × ν)} {i:Nat},(getE A k).isSome=true→∃ j u,findA (kf k) (ents kf vf i A)=some (some (j,u))∧(ents kf vf i A).modify j (fun e=>(kf k,vf v,e.2.2))=ents kf vf i (putE A k v)∧(putE A k v).length=A.length
 | [],i,h=>by simp [getE] at h
 | x :: A,i,h=>by
  simp only [getE] at h
  by_cases e:x.1=k
  ·refine ⟨0,vf x.2,?_,?_,?_⟩
   ·simp only [ents,findA,hk k x.1,decide_eq_true (show k=x.1 from e.symm)]
   ·simp [ents,putE,e]
   ·simp [putE,e]
  ·rw [if_neg e] at h
   obtain ⟨j,u,h1,h2,h3⟩:=putE_old (vf:=vf) hk (v:=v) (A:=A) (i:=i+1) h
   refine ⟨j+1,u,?_,?_,?_⟩
   ·simp only [ents,findA,hk k x.1,decide_eq_false (show ¬ k=x.1 from fun e'=>e e'.symm),h1]; rfl
   ·simp only [ents,putE,if_neg e,List.modify_succ_cons,h2]
   ·simp only [putE,if_neg e,az,h3]
theorem upd_any {os:List AObj} {b w r:Nat} {A:List (κ × ν)} {kf:κ→AVal} {vf:ν→AVal} (hk:KeyF kf) (h:os[r]? = some (mObj kf vf A)) {kn:KeyT} {k:κ} (v:ν) (hi:isKey kn (kf k)=true) (hb:b≤r) :
  evExt (.mapupd kn) [.map (some r),kf k,vf v] ⟨os,b,w⟩=some (.tuple [],⟨os.set r (mObj kf vf (putE A k v)),b,min w r⟩):=by
 cases hg:getE A k with
 | none=>rw [putE_new hg]; exact upd_new hk h v hi hb hg
 | some u =>
  obtain ⟨j,u',h1,h2,h3⟩:=putE_old (vf:=vf) hk (v:=v) (A:=A) (i:=0) (k:=k) (by rw [hg]; rfl)
  simp only [evExt,hi,Heap.get,h,mObj,hb,and_self,if_true,h1,Heap.put,h2,h3]
end
def cellsR:List FieldU→Int→List Int→Int × List Int
 | [],n,r=>(n,r)
 | f :: fs,n,r=>if f.st then cellsR fs n r else cellsR fs (n+1) (if isRef f.desc then r++[n] else r)
def cellsZ (cl:Str):List FieldU→Int→List (Key × Int)→List (Key × Int)
 | [],_,Z=>Z
 | f :: fs,n,Z=>if f.st then cellsZ cl fs n Z else cellsZ cl fs (n+1) (putE Z (cl,f.name,f.desc) n)
abbrev zObj (Z:List (Key × Int)):AObj:=mObj keyF intV Z
theorem ei (x:LClsU):x.cells.length=5:=rfl
theorem km (x:Int):(intC x).length=1:=rfl
structure CO (H0 H:List AObj) (lo ci mz k:Nat) (C:List LClsU) (c:LClsU) (Z:List (Key × Int)):Prop where
 up:∀ i o,i < lo→H0[i]? = some o→i≠ci→i≠mz→H[i]? = some o
 len:lo≤H.length
 c0:∃ cs,H0[ci]? = some (.cells 5 cs)
 z0:∃ es n,H0[mz]? = some (.map es n)
 cl:ci < lo
 zl:mz < lo
 cs:H[ci]? = some (.cells 5 (C.flatMap LClsU.cells))
 at':C[k]? = some c
 zs:H[mz]? = some (zObj Z)
 rs:RV 1 intC lo H c.refs c.ra c.rc
 tb:RV 1 intC lo H c.table c.ta c.tc
 ne:∀ p q q',c.ra=some (p,q)→c.ta≠some (p,q')
section
variable {H0 H:List AObj} {lo ci mz k b:Nat} {C:List LClsU} {c:LClsU} {Z:List (Key × Int)}
theorem CO.ne' (h:CO H0 H lo ci mz k C c Z):ci≠mz:=fun e=>by
 obtain ⟨cs,h1⟩:=h.c0
 obtain ⟨es,n,h2⟩:=h.z0
 rw [e,h2] at h1; cases h1
theorem CO.get (h:CO H0 H lo ci mz k C c Z) {i e:Nat} {cs:List AVal} (hi:i < lo) (hg:H0[i]? = some (.cells e cs)) (he:e≠5):H[i]? = some (.cells e cs):=by
 refine h.up i _ hi hg (fun e'=>?_) fun e'=>?_
 ·obtain ⟨cs,h1⟩:=h.c0
  rw [e',h1] at hg; cases hg; exact he rfl
 ·obtain ⟨es,n,h1⟩:=h.z0
  rw [e',h1] at hg; cases hg
theorem CO.row (h:CO H0 H lo ci mz k C c Z) {α:Type} {e:Nat} {f:α→List AVal} {L:List α} {a:Option (Nat × Nat)} (hr:Row H0 e f L a) (hl:under lo a) (he:e≠5):Row H e f L a :=
 ⟨fun hne=>by
  obtain ⟨p,o,cs,h1,h2,h3⟩:=hr.at' hne
  exact ⟨p,o,cs,h1,h.get (hl p o h1) h2 he,h3⟩⟩
theorem ic {A:List AObj} {i:Nat} {x y:AObj} (h:A[i]? = some x):(A.set i y)[i]? = some y:=bv (aj h)
theorem CO.setC (h:CO H0 H lo ci mz k C c Z) (c':LClsU) (hr:c'.refs=c.refs∧c'.ra=c.ra∧c'.rc=c.rc) (ht:c'.table=c.table∧c'.ta=c.ta∧c'.tc=c.tc):CO H0 (H.set ci (.cells 5 ((C.set k c').flatMap LClsU.cells))) lo ci mz k (C.set k c') c' Z:=by
 have hkl:=aj h.at'
 refine ⟨fun i o hi hg h1 h2=>by rw [ai (Ne.symm h1)]; exact h.up i o hi hg h1 h2,by simpa using h.len,h.c0,h.z0,h.cl,h.zl,ic h.cs,bv hkl,by rw [ai h.ne']; exact h.zs,?_,?_,?_⟩
 ·rw [hr.1,hr.2.1,hr.2.2]
  exact h.rs.keep fun p q o hp hg=>by rw [ai (by have:=h.rs.lt hp; have:=h.cl; omega)]; exact hg
 ·rw [ht.1,ht.2.1,ht.2.2]
  exact h.tb.keep fun p q o hp hg=>by rw [ai (by have:=h.tb.lt hp; have:=h.cl; omega)]; exact hg
 ·rw [hr.2.1,ht.2.1]; exact h.ne
theorem CO.setZ (h:CO H0 H lo ci mz k C c Z) (Z':List (Key × Int)):CO H0 (H.set mz (zObj Z')) lo ci mz k C c Z':=by
 refine ⟨fun i o hi hg h1 h2=>by rw [ai (Ne.symm h2)]; exact h.up i o hi hg h1 h2,by simpa using h.len,h.c0,h.z0,h.cl,h.zl,by rw [ai h.ne'.symm]; exact h.cs,h.at',ic h.zs,?_,?_,h.ne⟩
 ·exact h.rs.keep fun p q o hp hg=>by rw [ai (by have:=h.rs.lt hp; have:=h.zl; omega)]; exact hg
 ·exact h.tb.keep fun p q o hp hg=>by rw [ai (by have:=h.tb.lt hp; have:=h.zl; omega)]; exact hg
theorem CO.addR (h:CO H0 H lo ci mz k C c Z) (hb:b≤lo) (hl:c.refs.length≤1000000) (x:Int):∃ H',H.length+2=H'.length∧(∀ w m,m≤w→m≤lo→m≤nxA c.ra w)∧(∀ w,nxA c.ra w≤w)∧H'[H.length+1]? = some (.cells 1 ((c.refs++[x]).flatMap intC))∧(∀ p q,c.ra=some (p,q)→H'[p]? = some .dead) ∧
  H'[ci]? = some (.cells 5 (C.flatMap LClsU.cells))∧(∀ w,aAppend 1 8 ⟨H++[.cells 1 [.int .i64 x]],b,w⟩ (.slice c.ra c.refs.length c.rc) (.slice (some (H.length,0)) 1 (some 1))=some (.slice (some (H.length+1,0)) (c.refs.length+1) none,⟨H',b,nxA c.ra w⟩)) ∧
  CO H0 (H'.set ci (.cells 5 ((C.set k { c with refs:=c.refs++[x],ra:=some (H.length+1,0),rc:=none }).flatMap LClsU.cells))) lo ci mz k (C.set k { c with refs:=c.refs++[x],ra:=some (H.length+1,0),rc:=none }) { c with refs:=c.refs++[x],ra:=some (H.length+1,0),rc:=none } Z:=by
 obtain ⟨H',h1,h2,h3,h4,h5,h7,h6⟩:=h.rs.add (by':=8) km h.len hb (by omega) (by omega) x
 have old:∀ i o,i < lo→H[i]? = some o→H'[i]? = some o:=fun i o hi hg=>h3 i o hg fun q e=>by have:=h.rs.lt e; omega
 have hcl:=h.cl
 have hc1:=old ci _ h.cl h.cs
 refine ⟨H',h2,h4,h5,?_,h7,hc1,h6,?_⟩
 ·rcases h1 with ⟨q,_⟩ | ⟨_,p,_,q2,_,q4⟩
  ·simp at q
  ·cases q2; exact q4
 have hln:=h.len
 refine ⟨fun i o hi hg q1 q2=>by rw [ai (Ne.symm q1)]; exact old i o hi (h.up i o hi hg q1 q2),by rw [br]; omega,h.c0,h.z0,h.cl,h.zl,ic hc1,bv (aj h.at'),by rw [ai h.ne']; exact old _ _ h.zl h.zs,?_,?_,?_⟩
 ·exact h1.keep fun p q o hp hg=>by
   cases hp
   rw [ai (by omega)]; exact hg
 ·exact h.tb.keep fun p q o hp hg=>by
   rw [ai (by have:=h.tb.lt hp; omega)]
   exact h3 p o hg fun q' e=>h.ne p q' q e hp
 ·intro p q q' hp hq
  cases hp
  have:=h.tb.lt hq
  omega
end
section
variable {H0:List AObj} {lo ci mz k b K ui uo:Nat} {x0 x1 x2 x3 x4 x5 x7:AVal} {us:List AVal}
theorem s30 {s:Str} {os:List AObj} {w:Nat}:xCall T 30 [.str s] ⟨os,b,w⟩=some (.bool (isRef s),⟨os,b,w⟩):=jd sub AbsHier.s30
def app286:ACode:=.after (.region [⟨true,[0,0,2,6,14,0,32,96,224,480,1022],[v 32 1,v 33 1,o 34 (.nilcheck (t 33)),o 35 (.faddr (t 34) 3),o 36 (.load none (t 35)),v 37 1,o 38 (.nilcheck (t 37)),o 39 (.faddr (t 38) 2),o 40 (.load none (t 39)),o 41 (.mkslice 1 1 [.int .i64 0] [(0,1,t 40)]),o 42 (.append 1 8 (t 36) (t 41))]⟩,⟨false,[],[o 43 (.nilcheck (t 32)),o 44 (.faddr (t 43) 3),u (.store 1 (t 44) (t 42))]⟩]) [0,1,2,8,12,13,14]
theorem app286_eq:code286L0 = .live [0,1,2,12,13,14] (.seq (R [0,1,2,12,13,14,15] [o 15 (.bin .lss (t 14) (t 13))])
 (.seq (.after (.cond (t 15) (.skip) (.live [] (.exit 0))) [0,1,2,12,13,14])
 (.seq (.after (.block 1 (.seq (R [0,1,2,7,12,13,14] [o 16 (.iaddr 3 (t 12) (t 14)),o 17 (.load (some 3) (t 16)),o 7 (.lalloc [.bool false,.str [],.str []]),u (.store 3 (t 7) (t 17))])
 (.seq (.after (.region [⟨true,[],[v 18 2,o 19 (.nilcheck (t 18)),o 20 (.faddr (t 19) 0),o 21 (.load none (t 20)),o 22 (.faddr (t 7) 1),o 23 (.load none (t 22)),o 24 (.faddr (t 7) 2),o 25 (.load none (t 24)),o 26 (.build [.str [],.str [],.str []] [(0,1,t 21),(1,1,t 23),(2,1,t 25)]),o 8 (.lalloc [.str [],.str [],.str []])]⟩,⟨false,[],[u (.store 3 (t 8) (t 26))]⟩]) [0,1,2,7,8,12,13,14])
 (.seq (.seq (R [0,1,2,7,8,12,13,14,28] [o 27 (.faddr (t 7) 0),o 28 (.load none (t 27))])
 (.after (.cond (t 28) (.live [0,1,2,12,13,14] (.exit 1)) (.skip)) [0,1,2,7,8,12,13,14]))
 (.seq (.seq (R [0,1,2,8,12,13,14,31] [o 29 (.faddr (t 7) 2),o 30 (.load none (t 29)),o 31 (.callg 30 [t 30])])
 (.after (.cond (t 31) app286 (.skip)) [0,1,2,8,12,13,14]))
 (.seq (.after (.region [⟨true,[],[v 45 0,o 46 (.nilcheck (t 45)),o 47 (.faddr (t 46) 6),o 48 (.load none (t 47)),o 49 (.load (some 3) (t 8)),v 50 1,o 51 (.nilcheck (t 50)),o 52 (.faddr (t 51) 2),o 53 (.load none (t 52))]⟩,⟨false,[],[u (.ext (.mapupd (.agg [.s,.s,.s])) [t 48,t 49,t 53])]⟩]) [0,1,2,12,13,14])
 (R [0,1,2,12,13,14] [v 54 1,o 55 (.nilcheck (t 54)),o 56 (.faddr (t 55) 2),o 57 (.load none (t 56)),o 58 (.bin .add (t 57) (n 1)),o 59 (.nilcheck (t 54)),o 60 (.faddr (t 59) 2),u (.store 1 (t 60) (t 58))]))))))) [0,1,2,12,13,14])
 (R [0,1,2,12,13,14] [o 61 (.bin .add (t 14) (n 1)),v 14 61])))):=rfl
theorem idsC (e:Nat) (cs:List AVal):(AObj.cells e cs).ids=AVal.idsL cs:=rfl
section
attribute [-simp] getElem?_pos getElem?_neg List.all_eq_true sget
attribute [local simp] gz gs nltT nltF iltT iltF ileT nleT dh sgetN sgetH sgetT
theorem a286 {H H1:List AObj} {ci k b w rn:Nat} {ra:Option (Nat × Nat)} {rc:Option Nat} {n:Int} {X X1:List AVal} {y0 y2 y12 y13 y14 y31:AVal} {y8:List AVal}
  (hcs:H[ci]? = some (.cells 5 X)) (a4:H1[ci]? = some (.cells 5 X)) (g2:X[k*5+2]? = some (.int .i64 n)) (g3:X[k*5+3]? = some (.slice ra rn rc)) (hB:k*5+5≤X.length) (hb:b≤ci) (hbl:b≤H.length)
  (t1:X.take (k*5+3) ++ .slice (some (H.length+1,0)) (rn+1) none :: X.drop (k*5+3+1)=X1) (a5:∀ w,aAppend 1 8 ⟨H++[.cells 1 [.int .i64 n]],b,w⟩ (.slice ra rn rc) (.slice (some (H.length,0)) 1 (some 1))=some (.slice (some (H.length+1,0)) (rn+1) none,⟨H1,b,nxA ra w⟩)) (a1:H.length+2=H1.length)
  (hids:(ra=none∧rc=some 0)∨∃ rp,ra=some (rp,0)∧rc=none∧rp < H.length∧rp≠ci∧H1[rp]? = some .dead) {R1:List AVal} (a6:H1[H.length+1]? = some (.cells 1 R1)) (a7:AVal.idsL R1=[]) (k':AExit→St→Option (AVal × Heap)) :
  xK T app286 ⟨[(0,.val y0),(1,.val (.ptr (some (ci,k*5)))),(2,.val y2),(8,.var y8),(12,.val y12),(13,.val y13),(14,.val y14),(31,.val y31)],⟨H,b,w⟩⟩ (k:=⟨k'⟩) =
   k' .normal ⟨[(0,.val y0),(1,.val (.ptr (some (ci,k*5)))),(2,.val y2),(8,.var y8),(12,.val y12),(13,.val y13),(14,.val y14)],⟨H1.set ci (.cells 5 X1),b,min (nxA ra w) ci⟩⟩:=by
 have hci:=aj hcs
 rcases hids with ⟨rfl,rfl⟩ | ⟨rp,rfl,rfl,hrp,hne,hdd⟩
 ·simp (maxSteps:=3000000) (disch:=omega) [ce,-aAppend,app286,hcs,a4,g2,g3,hB,t1,a5,a1.symm,a6,a7,idsC,nxA]
 ·simp (maxSteps:=3000000) (disch:=omega) [ce,-aAppend,app286,hcs,a4,g2,g3,hB,t1,a5,a1.symm,a6,a7,idsC,nxA,hdd,show ¬ rp=H.length+1 by omega,hrp,hne]
end
section
attribute [-simp] getElem?_pos getElem?_neg List.all_eq_true
attribute [local simp] gz gs nltT nltF iltT iltF ileT nleT dh
theorem l286 {u:UnitU} (hK:H0[K]? = some (.cells 8 [x0,x1,x2,x3,x4,x5,.map (some mz),x7])) (hKl:K < lo) (hU:H0[ui]? = some (.cells 4 us)) (hUl:ui < lo) (hun:us[uo]? = some (.str u.name)) (hF:Row H0 3 FieldU.cells u.fields u.fa) (hFu:under lo u.fa)
  (hb:b≤ci∧b≤mz∧b≤lo) {m:Nat} (hm:m≤ci∧m≤mz∧m≤lo) (hlen:u.fields.length≤1000000):∀ (j i w:Nat) (H:List AObj) (C:List LClsU) (c:LClsU) (Z:List (Key × Int)),i+j=u.fields.length→0≤c.cells'→c.cells'+j≤1000000000→c.refs.length+j≤1000000→CO H0 H lo ci mz k C c Z→m≤w →
  ∃ H' ra rc w',CO H0 H' lo ci mz k (C.set k { c with cells':=(cellsR (u.fields.drop i) c.cells' c.refs).1,refs:=(cellsR (u.fields.drop i) c.cells' c.refs).2,ra:=ra,rc:=rc }) { c with cells':=(cellsR (u.fields.drop i) c.cells' c.refs).1,refs:=(cellsR (u.fields.drop i) c.cells' c.refs).2,ra:=ra,rc:=rc } (cellsZ u.name (u.fields.drop i) c.cells' Z)∧m≤w'∧w'≤w∧(w'≤ci∨H'=H∧w'=w)∧∀ (k':AExit→St→Option (AVal × Heap)),
  xK T (.loop code286L0) ⟨[(0,.val (.ptr (some (K,0)))),(1,.val (.ptr (some (ci,k*5)))),(2,.val (.ptr (some (ui,uo)))),(12,.val (.slice u.fa u.fields.length u.fc)),(13,.val (.int .i64 u.fields.length)),(14,.val (.int .i64 i))],⟨H,b,w⟩⟩ (k:=⟨k'⟩) =
   k' (.exit 0) ⟨[],⟨H',b,w'⟩⟩
 | 0,i,w,H,C,c,Z,hi,h0,hc,hr,h,hw=>by
  refine ⟨H,c.ra,c.rc,w,?_,hw,ak _,.inr ⟨rfl,rfl⟩,fun k'=>?_⟩
  ·rw [bq (by omega)]
   have:C.set k c=C:=by
    refine eu fun q=>?_
    by_cases e:k=q
    ·subst e; rw [bv (aj h.at'),h.at']
    ·rw [ai e]
   simp only [cellsR,cellsZ]
   show CO H0 H lo ci mz k (C.set k c) c Z
   rw [this]; exact h
  ·rw [bl]
   simp (disch:=omega) [code286L0]
 | j+1,i,w,H,C,c,Z,hi,h0,hc,hr,h,hw=>by
  obtain ⟨f,hf⟩:∃ f,u.fields[i]? = some f:=⟨_,ag (by omega)⟩
  obtain ⟨p,o,cs,ha,hpp,hpl,hcs,ht⟩:=g7 (h.row hF hFu (by decide)) hf
  have hd:=j7 hf
  have hcf:f.cells=[.bool f.st,.str f.name,.str f.desc]:=rfl
  rw [hcf] at ht
  have hK':=h.get hKl hK (by decide)
  have hU':=h.get hUl hU (by decide)
  have e2:((i+1:Nat):Int)=(i:Int)+1:=by omega
  have h30:=fun os w=>s30 (s:=f.desc) (os:=os) (b:=b) (w:=w)
  cases hst:f.st with
  | true =>
   obtain ⟨H',ra,rc,w',i1,i2,i3,i5,i4⟩:=l286 (m:=m) hK hKl hU hUl hun hF hFu hb hm hlen j (i+1) w H C c Z (by omega) h0 (by omega) (by omega) h hw
   refine ⟨H',ra,rc,w',?_,i2,i3,i5,fun k'=>?_⟩
   ·rw [hd]; simp only [cellsR,cellsZ,hst,if_true]; exact i1
   ·have ih:=i4 k'
    rw [e2] at ih
    rw [hst] at ht
    rw [ha] at ih ⊢
    rw [bl]
    generalize ACode.loop code286L0=LL at ih ⊢
    simp (disch:=omega) [code286L0,hpp,ht,hU',hun,ih]
  | false =>
   have hln:=h.len
   have hcl:=h.cl
   have hzl:=h.zl
   have hkl:=aj h.at'
   have hX:(C.flatMap LClsU.cells).length=C.length*5:=i8 _ 5 ei C
   have g2:(C.flatMap LClsU.cells)[k*5+2]? = some (.int .i64 c.cells'):=flat_at ei h.at' (by decide)
   have g3:(C.flatMap LClsU.cells)[k*5+3]? = some (.slice c.ra c.refs.length c.rc):=flat_at ei h.at' (by decide)
   have kk:keyF (u.name,f.name,f.desc) = .agg [.str u.name,.str f.name,.str f.desc]:=rfl
   cases hrf:isRef f.desc with
   | false =>
    let c2:LClsU:={ c with cells':=c.cells'+1 }
    have s2:(C.flatMap LClsU.cells).take (k*5+2) ++ .int .i64 (c.cells'+1) :: (C.flatMap LClsU.cells).drop (k*5+2+1)=(C.set k c2).flatMap LClsU.cells:=by
     have:=iz (v:=.int .i64 (c.cells'+1)) (y:=c2) ei h.at' (k:=2) (by decide) rfl
     simpa only [splice,ba,eh,az,co,bt] using this
    have hup:=fun w=>upd_any (b:=b) (w:=w) (kn:=.agg [.s,.s,.s]) (vf:=intV) keyKey h.zs (k:=(u.name,f.name,f.desc)) c.cells' rfl hb.2.1
    have hz:=h.setZ (putE Z (u.name,f.name,f.desc) c.cells')
    have hzc:=hz.cs
    have hz2:=hz.setC c2 ⟨rfl,rfl,rfl⟩ ⟨rfl,rfl,rfl⟩
    obtain ⟨H',ra,rc,w',i1,i2,i3,i5,i4⟩:=l286 (m:=m) hK hKl hU hUl hun hF hFu hb hm hlen j (i+1) (min w (min mz ci)) _ (C.set k c2) c2 _ (by omega) (show 0≤c.cells'+1 by omega) (show c.cells'+1+j≤_ by omega) (show c.refs.length+j≤_ by omega) hz2 (by omega)
    refine ⟨H',ra,rc,w',?_,i2,by omega,.inl (by omega),fun k'=>?_⟩
    ·rw [hd]; simp only [cellsR,cellsZ,hst,hrf,if_false,av]
     rw [gr] at i1
     exact i1
    ·have ih:=i4 k'
     rw [e2] at ih
     rw [hst] at ht
     rw [ha] at ih ⊢
     rw [kk] at hup
     simp only [intV] at hup
     have hcs:=h.cs
     have h30:=h30 H
     rw [hrf] at h30
     have hB:k*5+5≤(C.flatMap LClsU.cells).length:=by omega
     rw [bl]
     generalize ACode.loop code286L0=LL at ih ⊢
     generalize C.flatMap LClsU.cells=X at hcs hzc g2 g3 s2 hB
     generalize (C.set k c2).flatMap LClsU.cells=X2 at s2 ih
     simp (disch:=omega) [-evExt,code286L0,hpp,ht,hU',hun,hK',h30,hup,hzc,hcs,g2,g3,s2,hB,ih]
   | true =>
    let c1:LClsU:={ c with refs:=c.refs++[c.cells'],ra:=some (H.length+1,0),rc:=none }
    let c2:LClsU:={ c1 with cells':=c.cells'+1 }
    obtain ⟨H1,a1,a2,a3,a6,a7,a4,a5,hA⟩:=h.addR hb.2.2 (by omega) c.cells'
    have t1:(C.flatMap LClsU.cells).take (k*5+3) ++ .slice (some (H.length+1,0)) (c.refs.length+1) none :: (C.flatMap LClsU.cells).drop (k*5+3+1)=(C.set k c1).flatMap LClsU.cells:=by
     have:=iz (v:=.slice (some (H.length+1,0)) (c.refs.length+1) none) (y:=c1) ei h.at' (k:=3) (by decide) (by simp [LClsU.cells,splice,c1])
     simpa only [splice,ba,eh,az,co,bt] using this
    have g4:((C.set k c1).flatMap LClsU.cells)[k*5+2]? = some (.int .i64 c.cells'):=flat_at ei hA.at' (by decide)
    have s2:((C.set k c1).flatMap LClsU.cells).take (k*5+2) ++ .int .i64 (c.cells'+1) :: ((C.set k c1).flatMap LClsU.cells).drop (k*5+2+1)=((C.set k c1).set k c2).flatMap LClsU.cells:=by
     have:=iz (v:=.int .i64 (c.cells'+1)) (y:=c2) ei hA.at' (k:=2) (by decide) rfl
     simpa only [splice,ba,eh,az,co,bt] using this
    have hX1:((C.set k c1).flatMap LClsU.cells).length=C.length*5:=by rw [i8 _ 5 ei,br]
    have hup:=fun w=>upd_any (b:=b) (w:=w) (kn:=.agg [.s,.s,.s]) (vf:=intV) keyKey hA.zs (k:=(u.name,f.name,f.desc)) c.cells' rfl hb.2.1
    have hz:=hA.setZ (putE Z (u.name,f.name,f.desc) c.cells')
    have hzc:=hz.cs
    have hz2:=hz.setC c2 ⟨rfl,rfl,rfl⟩ ⟨rfl,rfl,rfl⟩
    have hnx:=a2 w m hw hm.2.2
    have hnx2:=a3 w
    obtain ⟨H',ra,rc,w',i1,i2,i3,i5,i4⟩:=l286 (m:=m) hK hKl hU hUl hun hF hFu hb hm hlen j (i+1) (min (nxA c.ra w) (min ci mz)) _ ((C.set k c1).set k c2) c2 _ (by omega) (show 0≤c.cells'+1 by omega) (show c.cells'+1+j≤_ by omega) (show (c.refs++[c.cells']).length+j≤_ by simp; omega) hz2 (by omega)
    refine ⟨H',ra,rc,w',?_,i2,by omega,.inl (by omega),fun k'=>?_⟩
    ·rw [hd]; simp only [cellsR,cellsZ,hst,hrf,if_false,if_true,av]
     rw [gr,gr] at i1
     exact i1
    ·have ih:=i4 k'
     rw [e2] at ih
     rw [hst] at ht
     rw [ha] at ih ⊢
     rw [kk] at hup
     simp only [intV] at hup
     have hcs:=h.cs
     have h30:=h30 H
     rw [hrf] at h30
     have hK1:=hA.get hKl hK (by decide)
     have hU1:=hA.get hUl hU (by decide)
     have hB:k*5+5≤(C.flatMap LClsU.cells).length:=by omega
     have hB1:k*5+5≤((C.set k c1).flatMap LClsU.cells).length:=by omega
     have hKH:=aj hK'
     have hcH:=aj hcs
     have hll:∀ x:AObj,(H++[x]).length=H.length+1:=fun x=>by simp
     have hids:(c.ra=none∧c.rc=some 0)∨∃ rp,c.ra=some (rp,0)∧c.rc=none∧rp < H.length∧rp≠ci∧H1[rp]? = some .dead:=by
      rcases h.rs with ⟨r1,r2,r3⟩ | ⟨r1,rp,r2,r3,r4,r5⟩
      ·exact .inl ⟨r2,r3⟩
      ·exact .inr ⟨rp,r3,r4,aj r5,by omega,a7 _ _ r3⟩
     have ap:=fun w y0 y2 y12 y13 y14 y31 y8=>a286 (b:=b) (w:=w) (y0:=y0) (y2:=y2) (y12:=y12) (y13:=y13) (y14:=y14) (y31:=y31) (y8:=y8) hcs a4 g2 g3 hB hb.1 (by omega) t1 a5 a1 hids a6 (by rw [ir]; exact idsL_int _)
     rw [bl]
     generalize ACode.loop code286L0=LL at ih ⊢
     generalize C.flatMap LClsU.cells=X at hcs a4 g2 g3 t1 hB
     generalize (C.set k c1).flatMap LClsU.cells=X1 at t1 g4 s2 hzc hB1 hup hK1 hU1 ih ap
     generalize ((C.set k c1).set k c2).flatMap LClsU.cells=X2 at s2 ih
     simp (disch:=omega) [-evExt,app286_eq,hpp,ht,hU',hun,hK',h30,ap,g4,hup,hzc,hcs,g2,g3,s2,hB,hB1,hK1,hU1,ih]
theorem s286 {u:UnitU} {H:List AObj} {C:List LClsU} {c:LClsU} {Z:List (Key × Int)} {w:Nat} (hK:H0[K]? = some (.cells 8 [x0,x1,x2,x3,x4,x5,.map (some mz),x7])) (hKl:K < lo) (hU:H0[ui]? = some (.cells 4 us)) (hUl:ui < lo) (hun:(us.drop uo).take 4=u.cells) (huo:uo+4≤us.length)
  (hF:Row H0 3 FieldU.cells u.fields u.fa) (hFu:under lo u.fa) (hb:b≤ci∧b≤mz∧b≤lo) {m:Nat} (hm:m≤ci∧m≤mz∧m≤lo) (hlen:u.fields.length≤1000000) (h0:0≤c.cells') (hc:c.cells'+u.fields.length≤1000000000) (hr:c.refs.length+u.fields.length≤1000000) (h:CO H0 H lo ci mz k C c Z) :
  ∃ H' ra rc w',CO H0 H' lo ci mz k (C.set k { c with cells':=(cellsR u.fields c.cells' c.refs).1,refs:=(cellsR u.fields c.cells' c.refs).2,ra:=ra,rc:=rc }) { c with cells':=(cellsR u.fields c.cells' c.refs).1,refs:=(cellsR u.fields c.cells' c.refs).2,ra:=ra,rc:=rc } (cellsZ u.name u.fields c.cells' Z)∧min w m≤w'∧w'≤w ∧
   xCall T 286 [.ptr (some (K,0)),.ptr (some (ci,k*5)),.ptr (some (ui,uo))] ⟨H,b,w⟩=some (.tuple [],⟨H',b,w'⟩):=by
 have hucl:u.cells=[.str u.name,.str u.super,.slice u.fa u.fields.length u.fc,.slice u.ma u.meths.length u.mc]:=rfl
 have hn0:us[uo]? = some (.str u.name):=by
  have:=i7 (k:=0) hun (by decide); rw [ef] at this; rw [this,hucl]; rfl
 have hn2:us[uo+2]? = some (.slice u.fa u.fields.length u.fc):=by
  have:=i7 (k:=2) hun (by decide); rw [this,hucl]; rfl
 have hln:=h.len
 have hcl:=h.cl
 obtain ⟨H',ra,rc,w',i1,i2,i3,i5,i4⟩:=l286 (m:=m) hK hKl hU hUl hn0 hF hFu hb hm hlen u.fields.length 0 H.length H C c Z (by omega) h0 hc hr h (by omega)
 simp only [bf,d8] at i4 i1
 have hU':=h.get hUl hU (by decide)
 rcases i5 with i5 | ⟨rfl,rfl⟩
 ·refine ⟨H',ra,rc,min w w',i1,by omega,by omega,?_⟩
  simp (disch:=omega) [cd t286,code286,hU',hn2,i4]
 ·refine ⟨H',ra,rc,w,i1,by omega,by omega,?_⟩
  simp (disch:=omega) [cd t286,code286,hU',hn2,i4]
end
end
end Go.Abs.AbsSlot

namespace Go.Abs.AbsSlot
open Go.Abs.AbsHier Go.Abs.AbsDesc
open Go.Abs.Short
def idxN (N:List Nm) (k:Nm):Option Nat:=N.findIdx? fun x=>decide (x=k)
theorem idxN_lt {N:List Nm} {k:Nm} {s:Nat} (h:idxN N k=some s):s < N.length:=by
 unfold idxN at h
 rw [List.findIdx?_eq_some_iff_getElem] at h
 exact h.1
theorem idxN_snoc {N:List Nm} {k k':Nm} (h:idxN N k=none):idxN (N++[k]) k'=if k=k' then some N.length else idxN N k':=by
 unfold idxN at h ⊢
 rw [List.findIdx?_append]
 by_cases e:k=k'
 ·subst e; rw [if_pos rfl,h]; simp
 ·rw [if_neg e]
  simp [e]
structure MI (A:List (Nm × Int)) (N:List Nm):Prop where
 nd:(A.map Prod.fst).Nodup
 get:∀ k,getE A k=(idxN N k).map fun (i:Nat)=>(i:Int)
theorem MI.nil:MI [] []:=⟨by simp,fun k=>rfl⟩
theorem MI.add {A:List (Nm × Int)} {N:List Nm} (h:MI A N) {k:Nm} (hk:idxN N k=none):MI (A++[(k,(N.length:Int))]) (N++[k]):=by
 have hg:getE A k=none:=by rw [h.get,hk]; rfl
 refine ⟨?_,fun k'=>?_⟩
 ·rw [fj,List.nodup_append]
  refine ⟨h.nd,by simp,fun a ha b hb=>?_⟩
  simp at hb; subst hb
  rw [dw] at ha
  obtain ⟨x,hx,rfl⟩:=ha
  exact getE_none.1 hg x hx
 ·rw [jl,h.get,idxN_snoc hk]
  by_cases e:k=k'
  ·subst e; rw [hk,if_pos rfl]; simp [getE]
  ·rw [if_neg e]
   cases idxN N k' <;> simp [getE,e]
theorem getE_perm {κ ν:Type} [DecidableEq κ] {A B:List (κ × ν)} (hp:B.Perm A) (hn:(A.map Prod.fst).Nodup) (k:κ):getE B k=getE A k:=by
 have hnB:(B.map Prod.fst).Nodup:=(hp.map _).nodup_iff.2 hn
 have uniq:∀ {L:List (κ × ν)},(L.map Prod.fst).Nodup→∀ {v:ν},(k,v) ∈ L→getE L k=some v:=by
  intro L
  induction L with
  | nil=>intro _ v h; cases h
  | cons x L ih =>
   intro hn v h
   simp only [bo,je] at hn
   simp only [getE]
   rcases cr.1 h with h | h
   ·subst h; simp
   ·rw [if_neg (fun e=>hn.1 (by rw [e]; exact iy (f:=Prod.fst) h))]
    exact ih hn.2 h
 cases hg:getE A k with
 | some v=>exact uniq hnB (hp.mem_iff.2 (getE_mem hg))
 | none =>
  rw [getE_none] at hg ⊢
  exact fun x hx=>hg x (hp.mem_iff.1 hx)
theorem MI.perm {A B:List (Nm × Int)} {N:List Nm} (h:MI A N) (hp:B.Perm A):MI B N :=
 ⟨(hp.map _).nodup_iff.2 h.nd,fun k=>(getE_perm hp h.nd k).trans (h.get k)⟩
def methsT (fr:Nat):Nat→List MethU→List Nm→List Int→List Nm × List Int
 | _,[],N,T=>(N,T)
 | i,m :: ms,N,T=>if m.st then methsT fr (i+1) ms N T else match idxN N (m.name,m.desc) with
  | some s=>methsT fr (i+1) ms N (T.set s ((fr+i:Nat):Int))
  | none=>methsT fr (i+1) ms (N++[(m.name,m.desc)]) (T++[((fr+i:Nat):Int)])
def slotM (s:Nat) (y:LMethU):LMethU:={ y with slot:=s }
def methsM (fr:Nat):Nat→List MethU→List Nm→List LMethU→List LMethU
 | _,[],_,M=>M
 | i,m :: ms,N,M=>if m.st then methsM fr (i+1) ms N M else match idxN N (m.name,m.desc) with
  | some s=>methsM fr (i+1) ms N (M.modify (fr+i) (slotM s))
  | none=>methsM fr (i+1) ms (N++[(m.name,m.desc)]) (M.modify (fr+i) (slotM N.length))
theorem lmeth_len (x:LMethU):x.cells.length=6:=rfl
structure CM (lb:Nat) (H0 H:List AObj) (ta0:Option (Nat × Nat)) (ci mi m2 k:Nat) (C:List LClsU) (c:LClsU) (M:List LMethU) (A:List (Nm × Int)):Prop where
 up:∀ i o,H0[i]? = some o→i≠ci→i≠mi→i≠m2→(∀ q,ta0≠some (i,q))→H[i]? = some o
 len:H0.length≤H.length
 c0:∃ cs,H0[ci]? = some (.cells 5 cs)
 i0:∃ cs,H0[mi]? = some (.cells 6 cs)
 m0:∃ es n,H0[m2]? = some (.map es n)
 t0:∀ p q,ta0=some (p,q)→∃ cs,H0[p]? = some (.cells 1 cs)
 cs:H[ci]? = some (.cells 5 (C.flatMap LClsU.cells))
 at':C[k]? = some c
 ms:H[mi]? = some (.cells 6 (M.flatMap LMethU.cells))
 as:H[m2]? = some (nObj A)
 tb:RV 1 intC lb H c.table c.ta c.tc
 tn:c.ta=ta0∨∃ p,c.ta=some (p,0)∧H0.length≤p
section
variable {H0 H:List AObj} {ta0:Option (Nat × Nat)} {ci mi m2 k b lb:Nat} {C:List LClsU} {c:LClsU} {M:List LMethU} {A:List (Nm × Int)}
theorem CM.n1 (h:CM lb H0 H ta0 ci mi m2 k C c M A):ci≠mi∧ci≠m2∧mi≠m2:=by
 obtain ⟨c1,h1⟩:=h.c0
 obtain ⟨c2,h2⟩:=h.i0
 obtain ⟨es,n,h3⟩:=h.m0
 refine ⟨fun e=>?_,fun e=>?_,fun e=>?_⟩
 ·rw [e,h2] at h1; cases h1
 ·rw [e,h3] at h1; cases h1
 ·rw [e,h3] at h2; cases h2
theorem CM.tne (h:CM lb H0 H ta0 ci mi m2 k C c M A) {p q:Nat} (hp:c.ta=some (p,q)):p≠ci∧p≠mi∧p≠m2:=by
 obtain ⟨c1,h1⟩:=h.c0
 obtain ⟨c2,h2⟩:=h.i0
 obtain ⟨es,n,h3⟩:=h.m0
 have l1:=aj h1
 have l2:=aj h2
 have l3:=aj h3
 rcases h.tn with h4 | ⟨p',h4,h5⟩
 ·obtain ⟨cs,h6⟩:=h.t0 p q (h4.symm.trans hp)
  refine ⟨fun e=>?_,fun e=>?_,fun e=>?_⟩
  ·rw [e,h1] at h6; cases h6
  ·rw [e,h2] at h6; cases h6
  ·rw [e,h3] at h6; cases h6
 ·rw [h4] at hp; cases hp
  omega
theorem CM.get (h:CM lb H0 H ta0 ci mi m2 k C c M A) {i e:Nat} {cs:List AVal} (hg:H0[i]? = some (.cells e cs)) (he:e≠5∧e≠6) (ht:∀ q,ta0≠some (i,q)):H[i]? = some (.cells e cs):=by
 obtain ⟨c1,h1⟩:=h.c0
 obtain ⟨c2,h2⟩:=h.i0
 obtain ⟨es,n,h3⟩:=h.m0
 refine h.up i _ hg (fun e'=>?_) (fun e'=>?_) (fun e'=>?_) ht
 ·rw [e',h1] at hg; cases hg; exact he.1 rfl
 ·rw [e',h2] at hg; cases hg; exact he.2 rfl
 ·rw [e',h3] at hg; cases hg
theorem CM.get' (h:CM lb H0 H ta0 ci mi m2 k C c M A) {i e:Nat} {cs:List AVal} (hg:H0[i]? = some (.cells e cs)) (he:e≠5∧e≠6∧e≠1):H[i]? = some (.cells e cs) :=
 h.get hg ⟨he.1,he.2.1⟩ fun q hq=>by
  obtain ⟨cs',h1⟩:=h.t0 i q hq
  rw [hg] at h1; cases h1; exact he.2.2 rfl
theorem CM.row (h:CM lb H0 H ta0 ci mi m2 k C c M A) {α:Type} {e:Nat} {f:α→List AVal} {L:List α} {a:Option (Nat × Nat)} (hr:Row H0 e f L a) (he:e≠5∧e≠6∧e≠1):Row H e f L a :=
 ⟨fun hne=>by
  obtain ⟨p,o,cs,h1,h2,h3⟩:=hr.at' hne
  exact ⟨p,o,cs,h1,h.get' h2 he,h3⟩⟩
theorem CM.setM (h:CM lb H0 H ta0 ci mi m2 k C c M A) (M':List LMethU):CM lb H0 (H.set mi (.cells 6 (M'.flatMap LMethU.cells))) ta0 ci mi m2 k C c M' A:=by
 obtain ⟨n1,n2,n3⟩:=h.n1
 refine ⟨fun i o hg h1 h2 h3 h4=>by rw [ai (Ne.symm h2)]; exact h.up i o hg h1 h2 h3 h4,by simpa using h.len,h.c0,h.i0,h.m0,h.t0,by rw [ai n1.symm]; exact h.cs,h.at',ic h.ms,by rw [ai n3]; exact h.as,?_,h.tn⟩
 exact h.tb.keep fun p q o hp hg=>by rw [ai (h.tne hp).2.1.symm]; exact hg
theorem CM.setA (h:CM lb H0 H ta0 ci mi m2 k C c M A) (A':List (Nm × Int)):CM lb H0 (H.set m2 (nObj A')) ta0 ci mi m2 k C c M A':=by
 obtain ⟨n1,n2,n3⟩:=h.n1
 refine ⟨fun i o hg h1 h2 h3 h4=>by rw [ai (Ne.symm h3)]; exact h.up i o hg h1 h2 h3 h4,by simpa using h.len,h.c0,h.i0,h.m0,h.t0,by rw [ai n2.symm]; exact h.cs,h.at',by rw [ai n3.symm]; exact h.ms,ic h.as,?_,h.tn⟩
 exact h.tb.keep fun p q o hp hg=>by rw [ai (h.tne hp).2.2.symm]; exact hg
theorem CM.setT (h:CM lb H0 H ta0 ci mi m2 k C c M A) {s:Nat} (hs:s < c.table.length) (x:Int):∃ p,lb≤p∧c.ta=some (p,0)∧c.tc=none∧H[p]? = some (.cells 1 (c.table.map (AVal.int .i64))) ∧
  splice (c.table.map (AVal.int .i64)) s [.int .i64 x]=(c.table.set s x).map (AVal.int .i64) ∧
  CM lb H0 (H.set p (.cells 1 ((c.table.set s x).map (AVal.int .i64)))) ta0 ci mi m2 k (C.set k { c with table:=c.table.set s x }) { c with table:=c.table.set s x } M A ∧
  (C.set k { c with table:=c.table.set s x }).flatMap LClsU.cells=C.flatMap LClsU.cells:=by
 obtain ⟨n1,n2,n3⟩:=h.n1
 rcases h.tb with ⟨h1,_⟩ | ⟨h1,p,hlb,h2,h3,h4⟩
 ·rw [h1] at hs; simp at hs
 rw [ir] at h4
 have ht:=h.tne h2
 have hkl:=aj h.at'
 have hsame:(C.set k { c with table:=c.table.set s x }).flatMap LClsU.cells=C.flatMap LClsU.cells:=by
  have e:({ c with table:=c.table.set s x }:LClsU).cells=c.cells:=by simp [LClsU.cells]
  rw [List.flatMap_def,List.flatMap_def,List.map_set,e]
  congr 1
  refine eu fun q=>?_
  by_cases e':k=q
  ·subst e'
   rw [bv (by simpa using hkl),cq,h.at']; rfl
  ·rw [ai e']
 refine ⟨p,hlb,h2,h3,h4,?_,?_,hsame⟩
 ·have:=iz (e:=1) (f:=intC) (L:=c.table) (j:=s) (x:=c.table[s]) (y:=x) (k:=0) (v:=.int .i64 x) km (ag hs) (by decide) (by simp [intC,splice])
  rw [ir,ir,Nat.mul_one,ef] at this
  exact this
 ·refine ⟨fun i o hg q1 q2 q3 q4=>?_,by rw [br]; exact h.len,h.c0,h.i0,h.m0,h.t0,?_,bv hkl,?_,?_,?_,h.tn⟩
  ·rw [ai]
   ·exact h.up i o hg q1 q2 q3 q4
   ·intro e; subst e
    rcases h.tn with h5 | ⟨p',h5,h6⟩
    ·exact q4 0 (h5.symm.trans h2)
    ·rw [h5] at h2; cases h2
     have:=aj hg; omega
  ·rw [hsame,ai ht.1]; exact h.cs
  ·rw [ai ht.2.1]; exact h.ms
  ·rw [ai ht.2.2]; exact h.as
  ·refine .inr ⟨?_,p,hlb,h2,h3,?_⟩
   ·intro e
    have:=congrArg List.length e
    simp at this
    exact h1 this
   ·rw [ir]
    exact ic h4
theorem CM.addT (h:CM lb H0 H ta0 ci mi m2 k C c M A) (hb:b≤lb) (hlb:lb≤H0.length) (hl:c.table.length≤1000000) (x:Int):∃ H',H.length+2=H'.length∧(∀ w m,m≤w→m≤lb→m≤nxA c.ta w)∧(∀ w,nxA c.ta w≤w) ∧
  H'[ci]? = some (.cells 5 (C.flatMap LClsU.cells))∧(∀ w,aAppend 1 8 ⟨H++[.cells 1 [.int .i64 x]],b,w⟩ (.slice c.ta c.table.length c.tc) (.slice (some (H.length,0)) 1 (some 1))=some (.slice (some (H.length+1,0)) (c.table.length+1) none,⟨H',b,nxA c.ta w⟩)) ∧
  CM lb H0 (H'.set ci (.cells 5 ((C.set k { c with table:=c.table++[x],ta:=some (H.length+1,0),tc:=none }).flatMap LClsU.cells))) ta0 ci mi m2 k (C.set k { c with table:=c.table++[x],ta:=some (H.length+1,0),tc:=none }) { c with table:=c.table++[x],ta:=some (H.length+1,0),tc:=none } M A:=by
 have hln:=h.len
 obtain ⟨n1,n2,n3⟩:=h.n1
 obtain ⟨H',h1,h2,h3,h4,h5,_,h6⟩:=h.tb.add (by':=8) km (by omega) hb (by omega) (by omega) x
 have hci:=aj h.cs
 have hcs:=h3 _ _ h.cs fun q e=>(h.tne e).1 rfl
 refine ⟨H',h2,h4,h5,hcs,h6,?_⟩
 refine ⟨fun i o hg q1 q2 q3 q4=>?_,by rw [br]; omega,h.c0,h.i0,h.m0,h.t0,ic hcs,bv (aj h.at'),?_,?_,?_,.inr ⟨H.length+1,rfl,by omega⟩⟩
 ·rw [ai (Ne.symm q1)]
  refine h3 _ _ (h.up i o hg q1 q2 q3 q4) fun q e=>?_
  rcases h.tn with h7 | ⟨p',h7,h8⟩
  ·exact q4 q (h7.symm.trans e)
  ·rw [h7] at e; cases e
   have:=aj hg; omega
 ·rw [ai n1]; exact h3 _ _ h.ms fun q e=>(h.tne e).2.1 rfl
 ·rw [ai n2]; exact h3 _ _ h.as fun q e=>(h.tne e).2.2 rfl
 ·exact h1.keep fun p q o hp hg=>by
   cases hp
   rw [ai (by omega)]; exact hg
theorem modify_at {α:Type} {L:List α} {i:Nat} {x:α} (h:L[i]? = some x) (f:α→α):L.modify i f=L.set i (f x):=by
 refine eu fun q=>?_
 rw [gy]
 by_cases e:i=q
 ·subst e; rw [bv (aj h),h]; simp
 ·rw [ai e]; simp [e]
variable {K fi fo fn fr:Nat} {fc:Option Nat} {fs:List AVal} {x0 x2 x3 x4 x5 x6 x7:AVal} {mc:Option Nat} {Ml m:Nat}
section
attribute [-simp] getElem?_pos getElem?_neg List.all_eq_true
attribute [local simp] gz gs nltT nltF iltT iltF ileT nleT dh
theorem l161 {u:UnitU} (hK:H0[K]? = some (.cells 8 [x0,.slice (some (mi,0)) Ml mc,x2,x3,x4,x5,x6,x7])) (hfi:H0[fi]? = some (.cells 1 fs)) (hfs:fs[fo+k]? = some (.int .i64 fr)) (hfn:k < fn) (hfl:fo+k < fs.length) (hft:∀ q,ta0≠some (fi,q)) (hR:Row H0 8 MethU.cells u.meths u.ma)
  (hb:b≤lb∧b≤ci∧b≤mi∧b≤m2) (hlb:lb≤H0.length) (hm:m≤lb∧m≤ci∧m≤mi∧m≤m2) (hfr:fr+u.meths.length≤Ml) (hMl:Ml≤1000000) (hk:k≤1000000):∀ (j i w:Nat) (H:List AObj) (C:List LClsU) (c:LClsU) (M:List LMethU) (A:List (Nm × Int)) (N:List Nm),i+j=u.meths.length→M.length=Ml→MI A N→N.length=c.table.length→c.table.length+j≤1000000→CM lb H0 H ta0 ci mi m2 k C c M A→m≤w →
  ∃ H' ta tc A' w',CM lb H0 H' ta0 ci mi m2 k (C.set k { c with table:=(methsT fr i (u.meths.drop i) N c.table).2,ta:=ta,tc:=tc }) { c with table:=(methsT fr i (u.meths.drop i) N c.table).2,ta:=ta,tc:=tc } (methsM fr i (u.meths.drop i) N M) A'∧MI A' (methsT fr i (u.meths.drop i) N c.table).1∧m≤w'∧w'≤w∧∀ {β:Type} (k':AExit→St→Option β),
  xK T (.loop code161L0) ⟨[(0,.val (.ptr (some (K,0)))),(1,.val (.int .i64 k)),(2,.val (.slice (some (fi,fo)) fn fc)),(8,.val (.ptr (some (ci,k*5)))),(10,.val (.map (some m2))),(110,.val (.slice u.ma u.meths.length u.mc)),(111,.val (.int .i64 u.meths.length)),(112,.val (.int .i64 i))],⟨H,b,w⟩⟩ (k:=⟨k'⟩) =
   k' (.exit 2) ⟨[(0,.val (.ptr (some (K,0)))),(1,.val (.int .i64 k)),(10,.val (.map (some m2)))],⟨H',b,w'⟩⟩
 | 0,i,w,H,C,c,M,A,N,hi,hM,hA,hN,hT,h,hw=>by
  refine ⟨H,c.ta,c.tc,A,w,?_,?_,hw,ak _,fun {β} k'=>?_⟩
  ·rw [bq (by omega)]
   have:C.set k c=C:=by
    refine eu fun q=>?_
    by_cases e:k=q
    ·subst e; rw [bv (aj h.at'),h.at']
    ·rw [ai e]
   simp only [methsT,methsM]
   show CM lb H0 H ta0 ci mi m2 k (C.set k c) c M A
   rw [this]; exact h
  ·rw [bq (by omega)]
   exact hA
  ·rw [bl]
   simp (disch:=omega) [code161L0]
 | j+1,i,w,H,C,c,M,A,N,hi,hM,hA,hN,hT,h,hw=>by
  obtain ⟨y,hy⟩:∃ y,u.meths[i]? = some y:=⟨_,ag (by omega)⟩
  obtain ⟨p,o,cs,ha,hpp,hpl,hcs',ht⟩:=g7 (h.row hR (by decide)) hy
  have hd:=j7 hy
  have hcf:y.cells=[.bool y.st,.str y.name,.str y.desc,.int .i64 y.stack,.int .i64 y.locals,.slice y.ca y.code.length y.cc,.slice y.ta y.traps.length y.tc,.slice y.xa y.maps.length y.xc]:=rfl
  rw [hcf] at ht
  have hK':=h.get' hK (by decide)
  have hfi':=h.get hfi (by decide) hft
  have e2:((i+1:Nat):Int)=(i:Int)+1:=by omega
  have e3:((fr+i:Nat):Int)=(fr:Int)+i:=by omega
  have e4:((fr:Int)+(i:Int)).toNat=fr+i:=by omega
  have hkl:=aj h.at'
  have hX:(C.flatMap LClsU.cells).length=C.length*5:=i8 _ 5 ei C
  have hYl:(M.flatMap LMethU.cells).length=M.length*6:=i8 _ 6 lmeth_len M
  cases hst:y.st with
  | true =>
   obtain ⟨H',ta,tc,A',w',i1,i2,i3,i5,i4⟩:=l161 hK hfi hfs hfn hfl hft hR hb hlb hm hfr hMl hk j (i+1) w H C c M A N (by omega) hM hA hN (by omega) h hw
   refine ⟨H',ta,tc,A',w',?_,?_,i3,i5,fun {β} k'=>?_⟩
   ·rw [hd]; simp only [methsT,methsM,hst,if_true]; exact i1
   ·rw [hd]; simp only [methsT,hst,if_true]; exact i2
   ·have ih:=i4 k'
    rw [e2] at ih
    rw [hst] at ht
    rw [ha] at ih ⊢
    rw [bl]
    generalize ACode.loop code161L0=LL at ih ⊢
    simp (disch:=omega) [code161L0,hpp,ht,hK',hfi',hfs,ih]
  | false =>
   obtain ⟨z,hz⟩:∃ z,M[fr+i]? = some z:=⟨_,ag (by omega)⟩
   have hlk:=fun w=>lookup_ok (b:=b) (w:=w) (kn:=.agg [.s,.s]) (zero:=.int .i64 0) keyKeyN h.as (k:=(y.name,y.desc)) rfl
   have kk:keyN (y.name,y.desc) = .agg [.str y.name,.str y.desc]:=rfl
   rw [hA.get,kk] at hlk
   cases hx:idxN N (y.name,y.desc) with
   | some s =>
    have hs:=idxN_lt hx
    rw [hx] at hlk
    obtain ⟨tp,t0,t1,t2,t3,t4,t5,t6⟩:=h.setT (by omega:s < c.table.length) ((fr:Int)+i)
    have t7:=t5.setM (M.modify (fr+i) (slotM s))
    have hms:=t5.ms
    have tm:(M.flatMap LMethU.cells).take ((fr+i)*6+4) ++ .int .i64 s :: (M.flatMap LMethU.cells).drop ((fr+i)*6+4+1)=(M.modify (fr+i) (slotM s)).flatMap LMethU.cells:=by
     rw [modify_at hz]
     have:=iz (v:=.int .i64 s) (y:=slotM s z) lmeth_len hz (k:=4) (by decide) rfl
     simpa only [splice,ba,eh,az,co,bt] using this
    have g4:(C.flatMap LClsU.cells)[k*5+4]? = some (.slice c.ta c.table.length c.tc):=flat_at ei h.at' (by decide)
    rw [t1,t2] at g4
    have htl:=aj t3
    obtain ⟨H',ta,tc,A',w',i1,i2,i3,i5,i4⟩:=l161 hK hfi hfs hfn hfl hft hR hb hlb hm hfr hMl hk j (i+1) (min w (min tp mi)) _ _ _ _ A N (by omega) (by rw [List.length_modify]; exact hM) hA (by simpa using hN) (by simp; omega) t7 (by omega)
    refine ⟨H',ta,tc,A',w',?_,?_,i3,by omega,fun {β} k'=>?_⟩
    ·rw [hd]; simp only [methsT,methsM,hst,hx,av,if_false]
     rw [e3]
     rw [gr] at i1
     exact i1
    ·rw [hd]; simp only [methsT,hst,hx,av,if_false]; rw [e3]; exact i2
    ·have ih:=i4 k'
     rw [e2] at ih
     rw [hst] at ht
     rw [ha] at ih ⊢
     have hcs:=h.cs
     have hms0:=h.ms
     have hB:k*5+5≤(C.flatMap LClsU.cells).length:=by omega
     have hB6:(fr+i)*6+6≤(M.flatMap LMethU.cells).length:=by omega
     have hTl:(c.table.map (AVal.int .i64)).length=c.table.length:=by simp
     simp only [splice,ba,eh,az,co,bt] at t4
     rw [bl]
     generalize ACode.loop code161L0=LL at ih ⊢
     generalize C.flatMap LClsU.cells=X at hcs g4 hB
     generalize M.flatMap LMethU.cells=Y at hms0 hms tm hB6
     generalize (M.modify (fr+i) (slotM s)).flatMap LMethU.cells=Y2 at tm ih
     generalize c.table.map (AVal.int .i64)=TT at t3 t4 hTl
     generalize (c.table.set s ((fr:Int)+i)).map (AVal.int .i64)=T2 at t4 hms ih
     simp (disch:=omega) [-evExt,intV,e4,code161L0,hpp,ht,hK',hfi',hfs,hlk,g4,hcs,t3,t4,hTl,hms,tm,hB6,hB,ih]
   | none =>
    rw [hx] at hlk
    have hup:=fun w=>upd_new (b:=b) (w:=w) (kn:=.agg [.s,.s]) keyKeyN h.as (k:=(y.name,y.desc)) (N.length:Int) rfl hb.2.2.2 (by rw [hA.get,hx]; rfl)
    rw [kk,hN] at hup
    have hA2:=hA.add hx
    rw [hN] at hA2
    have h1:=h.setA (A++[((y.name,y.desc),(c.table.length:Int))])
    have hK1:=h1.get' hK (by decide)
    obtain ⟨H1,a1,a2,a3,a4,a5,h2⟩:=h1.addT hb.1 hlb (by omega) 0
    rw [br] at a1 a5 h2
    have hms2:=h2.ms
    let c1:LClsU:={ c with table:=c.table++[0],ta:=some (H.length+1,0),tc:=none }
    obtain ⟨tp,t0,t1,t2,t3,t4,t5,t6⟩:=h2.setT (s:=c.table.length) (by simp) ((fr:Int)+i)
    have e5:(c.table++[0]).set c.table.length ((fr:Int)+i)=c.table++[(fr:Int)+i]:=by simp
    cases t1
    simp only [e5] at t4 t5 t6
    have hfi1:=h2.get hfi (by decide) hft
    have hK2:=h2.get' hK (by decide)
    have hcs2:=h2.cs
    have t7:=t5.setM (M.modify (fr+i) (slotM c.table.length))
    have hms:=t5.ms
    have tm:(M.flatMap LMethU.cells).take ((fr+i)*6+4) ++ .int .i64 c.table.length :: (M.flatMap LMethU.cells).drop ((fr+i)*6+4+1)=(M.modify (fr+i) (slotM c.table.length)).flatMap LMethU.cells:=by
     rw [modify_at hz]
     have:=iz (v:=.int .i64 c.table.length) (y:=slotM c.table.length z) lmeth_len hz (k:=4) (by decide) rfl
     simpa only [splice,ba,eh,az,co,bt] using this
    have g4:(C.flatMap LClsU.cells)[k*5+4]? = some (.slice c.ta c.table.length c.tc):=flat_at ei h.at' (by decide)
    have tc1:(C.flatMap LClsU.cells).take (k*5+4) ++ .slice (some (H.length+1,0)) (c.table.length+1) none :: (C.flatMap LClsU.cells).drop (k*5+4+1)=(C.set k c1).flatMap LClsU.cells:=by
     have:=iz (v:=.slice (some (H.length+1,0)) (c.table.length+1) none) (y:=c1) ei h.at' (k:=4) (by decide) (by simp [LClsU.cells,splice,c1])
     simpa only [splice,ba,eh,az,co,bt] using this
    have g5:((C.set k c1).flatMap LClsU.cells)[k*5+4]? = some (.slice (some (H.length+1,0)) (c.table.length+1) none):=by
     have:=flat_at ei h2.at' (k:=4) (by decide)
     rw [this]; simp [LClsU.cells]
    have hw2:=a2 (min w m2) m (by omega) hm.1
    have hw3:=a3 (min w m2)
    obtain ⟨H',ta,tc,A',w',i1,i2,i3,i5,i4⟩:=l161 hK hfi hfs hfn hfl hft hR hb hlb hm hfr hMl hk j (i+1) (min (nxA c.ta (min w m2)) (min ci (min (H.length+1) mi))) _ _ _ _ (A++[((y.name,y.desc),(c.table.length:Int))]) (N++[(y.name,y.desc)]) (by omega) (by rw [List.length_modify]; exact hM) hA2 (by simp; exact hN) (by simp; omega) t7 (by omega)
    refine ⟨H',ta,tc,A',w',?_,?_,i3,by omega,fun {β} k'=>?_⟩
    ·rw [hd]; simp only [methsT,methsM,hst,hx,av,if_false]
     rw [e3,hN]
     rw [gr,gr] at i1
     exact i1
    ·rw [hd]; simp only [methsT,hst,hx,av,if_false]; rw [e3]; exact i2
    ·have ih:=i4 k'
     rw [e2] at ih
     rw [hst] at ht
     rw [ha] at ih ⊢
     have hcs:=h.cs
     have hcs1:=h1.cs
     have hB:k*5+5≤(C.flatMap LClsU.cells).length:=by omega
     have hB6:(fr+i)*6+6≤(M.flatMap LMethU.cells).length:=by omega
     have hTl:((c.table++[0]).map (AVal.int .i64)).length=c.table.length+1:=by simp
     have hhl:(H.set m2 (nObj (A++[((y.name,y.desc),(c.table.length:Int))]))).length=H.length:=br ..
     simp only [splice,ba,eh,az,co,bt] at t4
     simp only [intV] at hup
     rw [bl]
     generalize ACode.loop code161L0=LL at ih ⊢
     generalize C.flatMap LClsU.cells=X at hcs hcs1 a4 g4 hB tc1
     generalize (C.set k c1).flatMap LClsU.cells=X1 at tc1 g5 hcs2 hfi1 hK2 t3 hms hms2 ih
     generalize M.flatMap LMethU.cells=Y at hms hms2 tm hB6
     generalize (M.modify (fr+i) (slotM c.table.length)).flatMap LMethU.cells=Y2 at tm ih
     generalize (c.table++[0]).map (AVal.int .i64)=TT at t3 t4 hTl
     generalize (c.table++[(fr:Int)+i]).map (AVal.int .i64)=T2 at t4 hms ih
     generalize H.set m2 (nObj (A++[((y.name,y.desc),(c.table.length:Int))]))=G at hup hhl hK1 a5 hcs1
     simp (disch:=omega) [-evExt,-aAppend,intV,e4,code161L0,hpp,ht,hK',hK1,hK2,hfi',hfi1,hfs,hlk,hup,hcs,hcs1,g4,a4,a5,tc1,g5,hcs2,t3,t4,hTl,hms,tm,hB6,hB,hhl,a1.symm,ih]
end
end
end Go.Abs.AbsSlot

namespace Go.Abs.AbsSlot
open Go.Abs.AbsHier Go.Abs.AbsDesc
open Go.Abs.Short
variable {O:List AObj} {b w:Nat}
theorem finish_one {P:List AObj} {e q n:Nat} {cs:List AVal} {c:Option Nat} {W:Nat} (hq:P[q]? = some (.cells e cs)) (hI:AVal.idsL cs=[]) (hR:∀ g,AVal.renL g cs=cs) (h1:O.length≤q) (hW:O.length≤W) :
  finish ⟨O,b,w⟩ (.slice (some (q,0)) n c) ⟨P,b,W⟩=(.slice (some (O.length,0)) n c,⟨O++[.cells e cs],b,w⟩):=by
 have hv:AVal.under (⟨O,b,w⟩:Heap).size (.slice (some (q,0)) n c)=false:=by
  have:¬ q < O.length:=by omega
  simp [AVal.under,Heap.size,this]
 have hg:(⟨P,b,W⟩:Heap).get q=some (.cells e cs):=hq
 have hreach:reach ⟨P,b,W⟩ (⟨O,b,w⟩:Heap).size 1000 (AVal.slice (some (q,0)) n c).ids []=[q]:=by
  simp only [AVal.ids]
  rw [reach,if_neg (by show ¬ q < O.length; omega),if_neg (by simp),hg]
  simp only [bi,da,AObj.ids,hI,c9]
  rfl
 refine (finish_keep (show (⟨O,b,w⟩:Heap).size≤(⟨P,b,W⟩:Heap).wmin from hW) hv hreach fun j hj=>?_).trans ?_
 ·simp only [AVal.ids,bu,List.flatMap_nil,hg,bi,da,AObj.ids,hI,cz,cr,kh,or_false] at hj
  subst hj
  exact .inr (fq _)
 ·have key:∀ g:Nat→Nat,g q=O.length→((AVal.slice (some (q,0)) n c).ren g,(⟨O++[AObj.cells e cs],b,w⟩:Heap))=(.slice (some (O.length,0)) n c,⟨O++[.cells e cs],b,w⟩):=fun g hg'=>by
   simp only [AVal.ren,hg']
  simp only [Heap.size,bo,gq,hg,bi,da,AObj.ren,hR]
  exact key _ ((if_neg (show ¬ q < O.length by omega)).trans (by simp [idxIn]))
def clV (n:Nat) (L:List Int):AVal:=if L=[] then .slice none 0 (some 0) else .slice (some (n,0)) L.length none
def clO (O:List AObj) (L:List Int):List AObj:=if L=[] then O else O++[.cells 1 (L.map (AVal.int .i64))]
def clA (n:Nat) (L:List Int):Option (Nat × Nat):=if L=[] then none else some (n,0)
def clC (L:List Int):Option Nat:=if L=[] then some 0 else none
theorem clV_eq (n:Nat) (L:List Int):clV n L = .slice (clA n L) L.length (clC L):=by
 unfold clV clA clC; split
 ·rename_i h; subst h; rfl
 ·rfl
theorem cl_rv (L:List Int) {lo:Nat} (h:lo≤O.length) (X:List AObj):RV 1 intC lo (clO O L++X) L (clA O.length L) (clC L):=by
 unfold clO clA clC
 by_cases e:L=[]
 ·simp only [if_pos e]; exact .inl ⟨e,rfl,rfl⟩
 ·simp only [if_neg e]; exact .inr ⟨e,_,h,rfl,rfl,by rw [ir]; simp⟩
section
attribute [-simp] getElem?_pos getElem?_neg List.all_eq_true
attribute [local simp] gz gs nltT nltF iltT iltF ileT nleT dh
theorem s211 {L:List Int} {a:Option (Nat × Nat)} {c:Option Nat} {lo:Nat} (h:RV 1 intC lo O L a c) (hn:L.length≤1000000) (w:Nat):xCall T 211 [.slice a L.length c] ⟨O,b,w⟩=some (clV O.length L,⟨clO O L,b,w⟩):=by
 have hR:=h.row km
 rcases h with ⟨rfl,rfl,rfl⟩ | ⟨hL,p,hp,rfl,rfl,hg⟩
 ·simp (disch:=omega) [cd t211,code211,clV,clO]
 ·have hrow:∀ w,rowOf 1 ⟨O++[.cells 1 []],b,w⟩ (.slice (some (p,0)) L.length none)=some (L.flatMap intC):=fun w=>rowOf_row (h:=⟨O++[.cells 1 []],b,w⟩) ((Pre.app _ _).row hR)
  have hz:∀ w,rowOf 1 ⟨O++[.cells 1 []],b,w⟩ (.slice (some (O.length,0)) 0 (some 0))=some []:=fun w=>rowOf0
  have hl:¬ L.length=0:=fun e=>hL (b8 e)
  have e1:∀ w,aAppend 1 8 ⟨O++[.cells 1 []],b,w⟩ (.slice (some (O.length,0)) 0 (some 0)) (.slice (some (p,0)) L.length none)=some (.slice (some (O.length+1,0)) L.length none,⟨O++[.cells 1 [],.cells 1 (L.flatMap intC)],b,w⟩):=fun w=>by
   unfold aAppend
   simp only [hz,hrow w,aApp,alen]
   have q2:(0+L.length)*8≤140737488355328∧0+L.length≤9223372036854775807:=⟨by omega,by omega⟩
   simp only [eq_false hl,eq_true q2,if_false,if_true]
   simp [Heap.push,Heap.size]
  have hf:=finish_one (O:=O) (b:=b) (w:=w) (P:=O++[.cells 1 [],.cells 1 (L.flatMap intC)]) (e:=1) (q:=O.length+1) (n:=L.length) (cs:=L.flatMap intC) (c:=none) (W:=O.length) (by rw [eb]; rfl) (by rw [ir]; exact idsL_int _) (fun g=>by rw [ir]; exact renL_int g _) (by omega) (ak _)
  rw [ir] at hf e1
  simp (disch:=omega) [-aAppend,-finish,cd t211,code211,e1,hf,clV,clO,hL]
end
end Go.Abs.AbsSlot

namespace Go.Abs.AbsSlot
open Go.Abs.AbsHier Go.Abs.AbsDesc
structure CR where
 cells:Int
 refs:List Int
 names:List Nm
 table:List Int
def r0:CR:=⟨0,[],[],[]⟩
def stepC (u:UnitU) (fr:Nat) (r:CR):CR:=⟨(cellsR u.fields r.cells r.refs).1,(cellsR u.fields r.cells r.refs).2,(methsT fr 0 u.meths r.names r.table).1,(methsT fr 0 u.meths r.names r.table).2⟩
def supI:Option Nat→Int
 | none=>-1
 | some j=>j
structure Par where
 K:Nat
 ci:Nat
 mi:Nat
 si:Nat
 di:Nat
 mz:Nat
 mu:Nat
 ui:Nat
 fi:Nat
 lt:Nat
 m0:Nat
 cc:Option Nat
 mc:Option Nat
 sc:Option Nat
 dc:Option Nat
 fc:Option Nat
 stat:Int
 sr:AVal
 mt:AVal
 W:List UnitU
 F:List Nat
 M0:List LMethU
 Z0:List (Key × Int)
 U:List (Str × Nat)
 sup:Nat→Option Nat
 dep:Nat→Nat
 R:Nat→CR
def Par.base (P:Par) (i:Nat):CR:=match P.sup i with
 | none=>r0
 | some j=>P.R j
def Par.kc (P:Par):List AVal:=[.slice (some (P.ci,0)) P.W.length P.cc,.slice (some (P.mi,0)) P.M0.length P.mc,.int .i64 P.stat,P.sr,P.mt,.slice (some (P.si,0)) P.W.length P.sc,.map (some P.mz),.map (some P.mu)]
def Par.init (P:Par) (i:Nat) (u:UnitU):LClsU:=⟨u.name,supI (P.sup i),0,[],none,some 0,[],none,some 0⟩
def Par.slot (P:Par) (i:Nat) (m:MethU) (y:LMethU):LMethU:=if m.st then y else slotM ((idxN (P.R i).names (m.name,m.desc)).getD 0) y
def natV (x:Nat):AVal:=.int .i64 x
structure Par.ok (P:Par) (b:Nat):Prop where
 lts:P.K < P.lt∧P.ci < P.lt∧P.mi < P.lt∧P.si < P.lt∧P.di < P.lt∧P.mz < P.lt∧P.mu < P.lt∧P.ui < P.lt∧P.fi < P.lt
 ms:P.m0≤P.ci∧P.m0≤P.mi∧P.m0≤P.si∧P.m0≤P.di∧P.m0≤P.mz
 b:b≤P.m0
 ne:P.si≠P.di∧P.si≠P.fi∧P.di≠P.fi
 ne2:P.mu≠P.mz
 u:∀ (i:Nat) (u:UnitU),P.W[i]? = some u→getE P.U u.name=some (i*4)
 fl:P.F.length=P.W.length
 wl:P.W.length≤1000
 fr:∀ (i:Nat) (u:UnitU) (fr:Nat),P.W[i]? = some u→P.F[i]? = some fr→fr+u.meths.length≤P.M0.length
 ml:P.M0.length≤1000000
 dis:∀ (i i':Nat) (u u':UnitU) (fr fr' j j':Nat),P.W[i]? = some u→P.W[i']? = some u'→P.F[i]? = some fr→P.F[i']? = some fr'→j < u.meths.length→j' < u'.meths.length→i≠i'→fr+j≠fr'+j'
 sl:∀ i j,P.sup i=some j→i < P.W.length→j < P.W.length∧P.dep j < P.dep i
 r:∀ (i:Nat) (u:UnitU) (fr:Nat),P.W[i]? = some u→P.F[i]? = some fr→P.R i=stepC u fr (P.base i)
 rb:∀ i,0≤(P.R i).cells∧(P.R i).cells≤100000∧(P.R i).refs.length≤100000∧(P.R i).table.length≤100000∧(P.R i).names.length=(P.R i).table.length
 ub:∀ u ∈ P.W,u.fields.length≤1000∧u.meths.length≤1000
def Fin (P:Par) (H:List AObj) (C:List LClsU) (S:List (Option Nat)) (X:Nat→Prop) (i:Nat):Prop :=
 ∃ u c q A,P.W[i]? = some u∧C[i]? = some c∧(c.name=u.name∧c.super=supI (P.sup i)∧c.cells'=(P.R i).cells∧c.refs=(P.R i).refs∧c.table=(P.R i).table)∧RV 1 intC P.lt H c.refs c.ra c.rc∧RV 1 intC P.lt H c.table c.ta c.tc ∧
  S[i]? = some (some q)∧P.lt≤q∧H[q]? = some (nObj A)∧MI A (P.R i).names∧¬ X q
open Classical in
structure LS (P:Par) (H:List AObj) (C:List LClsU) (M:List LMethU) (D:List Bool) (S:List (Option Nat)) (Z:List (Key × Int)) (Q X:Nat→Prop):Prop where
 k:H[P.K]? = some (.cells 8 P.kc)
 cs:H[P.ci]? = some (.cells 5 (C.flatMap LClsU.cells))
 ms:H[P.mi]? = some (.cells 6 (M.flatMap LMethU.cells))
 ss:H[P.si]? = some (.cells 1 (S.map AVal.map))
 dn:H[P.di]? = some (.cells 1 (D.map AVal.bool))
 zs:H[P.mz]? = some (zObj Z)
 fr:H[P.fi]? = some (.cells 1 (P.F.map natV))
 us:H[P.ui]? = some (.cells 4 (P.W.flatMap UnitU.cells))
 um:H[P.mu]? = some (mObj AVal.str (fun q=>.ptr (some (P.ui,q))) P.U)
 rows:∀ u ∈ P.W,Row H 3 FieldU.cells u.fields u.fa∧under P.lt u.fa∧Row H 8 MethU.cells u.meths u.ma∧under P.lt u.ma
 cl:C.length=P.W.length
 ml:M.length=P.M0.length
 dl:D.length=P.W.length
 sl:S.length=P.W.length
 len:P.lt≤H.length
 xl:∀ i,X i→i < H.length
 fin:∀ i,D[i]? = some true→¬ Q i→Fin P H C S X i
 ini:∀ (i:Nat) (u:UnitU),P.W[i]? = some u→(D[i]? = some false∨Q i)→C[i]? = some (P.init i u)
 mst:∀ (i:Nat) (u:UnitU) (fr j:Nat) (m:MethU),P.W[i]? = some u→P.F[i]? = some fr→u.meths[j]? = some m→M[fr+j]? = if D[i]? = some true∧¬ Q i then (P.M0[fr+j]?).map (P.slot i m) else P.M0[fr+j]?
 zst:∀ (i:Nat) (u:UnitU) (n d:Str),P.W[i]? = some u→getE Z (u.name,n,d)=if D[i]? = some true∧¬ Q i then getE (cellsZ u.name u.fields (P.base i).cells P.Z0) (u.name,n,d) else getE P.Z0 (u.name,n,d)
def Upd5 (P:Par) (H H':List AObj):Prop:=∀ i o,H[i]? = some o→i≠P.ci→i≠P.mi→i≠P.si→i≠P.di→i≠P.mz→H'[i]? = some o
section
variable {P:Par} {b:Nat} {H H':List AObj} {C:List LClsU} {M:List LMethU} {D:List Bool} {S:List (Option Nat)} {Z:List (Key × Int)} {Q X:Nat→Prop}
theorem Upd5.refl (P:Par) (H:List AObj):Upd5 P H H:=fun _ _ h _ _ _ _ _=>h
theorem Upd5.trans {H'':List AObj} (h:Upd5 P H H') (k:Upd5 P H' H''):Upd5 P H H'':=fun i o g a1 a2 a3 a4 a5=>k i o (h i o g a1 a2 a3 a4 a5) a1 a2 a3 a4 a5
theorem Fin.keep {C':List LClsU} {S':List (Option Nat)} {X':Nat→Prop} {i:Nat} (h:Fin P H C S X i) (hc:C'[i]? = C[i]?) (hs:S'[i]? = S[i]?) (hx:∀ q,X' q→X q∨H.length≤q)
  (hk:∀ j o,P.lt≤j→H[j]? = some o→¬ X j→H'[j]? = some o) (hk1:∀ j cs,P.lt≤j→H[j]? = some (.cells 1 cs)→H'[j]? = some (.cells 1 cs)):Fin P H' C' S' X' i:=by
 obtain ⟨u,c,q,A,h1,h2,h3,h4,h5,h6,h7,h8,h9,h10⟩:=h
 have rv:∀ {L:List Int} {a:Option (Nat × Nat)} {c:Option Nat},RV 1 intC P.lt H L a c→RV 1 intC P.lt H' L a c:=fun {L a c} hr=>by
  rcases hr with hr | ⟨r1,p,r2,r3,r4,r5⟩
  ·exact .inl hr
  ·exact .inr ⟨r1,p,r2,r3,r4,hk1 p _ r2 r5⟩
 exact ⟨u,c,q,A,h1,hc.trans h2,h3,rv h4,rv h5,hs.trans h6,h7,hk q _ h7 h8 h10,h9,fun e=>by
  rcases hx q e with e | e
  ·exact h10 e
  ·have:=aj h8; omega⟩
theorem LS.ne (h:LS P H C M D S Z Q X):P.ci≠P.mi∧P.ci≠P.si∧P.ci≠P.di∧P.ci≠P.mz∧P.mi≠P.si∧P.mi≠P.di∧P.mi≠P.mz∧P.si≠P.mz∧P.di≠P.mz:=by
 refine ⟨?_,?_,?_,?_,?_,?_,?_,?_,?_⟩ <;> intro e
 ·have:=h.cs; rw [e,h.ms] at this; cases this
 ·have:=h.cs; rw [e,h.ss] at this; cases this
 ·have:=h.cs; rw [e,h.dn] at this; cases this
 ·have:=h.cs; rw [e,h.zs] at this; cases this
 ·have:=h.ms; rw [e,h.ss] at this; cases this
 ·have:=h.ms; rw [e,h.dn] at this; cases this
 ·have:=h.ms; rw [e,h.zs] at this; cases this
 ·have:=h.ss; rw [e,h.zs] at this; cases this
 ·have:=h.dn; rw [e,h.zs] at this; cases this
theorem LS.same (h:LS P H C M D S Z Q X) (hP:P.ok b) (hu:∀ i o,i < P.lt→H[i]? = some o→i≠P.ci→i≠P.mi→i≠P.si→i≠P.di→i≠P.mz→H'[i]? = some o) :
  H'[P.K]? = some (.cells 8 P.kc)∧H'[P.fi]? = some (.cells 1 (P.F.map natV))∧H'[P.ui]? = some (.cells 4 (P.W.flatMap UnitU.cells))∧H'[P.mu]? = some (mObj AVal.str (fun q=>.ptr (some (P.ui,q))) P.U) ∧
  ∀ u ∈ P.W,Row H' 3 FieldU.cells u.fields u.fa∧under P.lt u.fa∧Row H' 8 MethU.cells u.meths u.ma∧under P.lt u.ma:=by
 obtain ⟨l1,l2,l3,l4,l5,l6,l7,l8,l9⟩:=hP.lts
 have cell:∀ i e cs,i < P.lt→H[i]? = some (.cells e cs)→e≠5→e≠6→(e=1→i≠P.si∧i≠P.di)→H'[i]? = some (.cells e cs):=by
  intro i e cs hi hg h5 h6 h1
  refine hu i _ hi hg (fun e'=>?_) (fun e'=>?_) (fun e'=>?_) (fun e'=>?_) (fun e'=>?_)
  ·rw [e',h.cs] at hg; cases hg; exact h5 rfl
  ·rw [e',h.ms] at hg; cases hg; exact h6 rfl
  ·have hg':=hg; rw [e',h.ss] at hg'; cases hg'; exact (h1 rfl).1 e'
  ·have hg':=hg; rw [e',h.dn] at hg'; cases hg'; exact (h1 rfl).2 e'
  ·rw [e',h.zs] at hg; cases hg
 have row:∀ {α:Type} {e:Nat} {f:α→List AVal} {L:List α} {a:Option (Nat × Nat)},Row H e f L a→under P.lt a→e≠5→e≠6→e≠1→Row H' e f L a:=fun {α e f L a} hr hl h5 h6 h1 =>
  ⟨fun hne=>by
   obtain ⟨p,o,cs,q1,q2,q3⟩:=hr.at' hne
   exact ⟨p,o,cs,q1,cell p e cs (hl p o q1) q2 h5 h6 (fun e'=>absurd e' h1),q3⟩⟩
 refine ⟨cell _ _ _ l1 h.k (by decide) (by decide) (fun e=>absurd e (by decide)),cell _ _ _ l9 h.fr (by decide) (by decide) (fun _=>⟨hP.ne.2.1.symm,hP.ne.2.2.symm⟩),cell _ _ _ l8 h.us (by decide) (by decide) (fun e=>absurd e (by decide)),?_,fun u hu'=>?_⟩
 ·refine hu _ _ l7 h.um (fun e'=>?_) (fun e'=>?_) (fun e'=>?_) (fun e'=>?_) hP.ne2
  ·have:=h.um; rw [e',h.cs] at this; cases this
  ·have:=h.um; rw [e',h.ms] at this; cases this
  ·have:=h.um; rw [e',h.ss] at this; cases this
  ·have:=h.um; rw [e',h.dn] at this; cases this
 ·obtain ⟨r1,r2,r3,r4⟩:=h.rows u hu'
  exact ⟨row r1 r2 (by decide) (by decide) (by decide),r2,row r3 r4 (by decide) (by decide) (by decide),r4⟩
theorem LS.start (h:LS P H C M D S Z Q X) (hP:P.ok b) {k:Nat} (hk:D[k]? = some false):LS P (H.set P.di (.cells 1 ((D.set k true).map AVal.bool))++[nObj []]) C M (D.set k true) S Z (fun i=>Q i∨i=k) (fun i=>X i∨i=H.length):=by
 obtain ⟨n1,n2,n3,n4,n5,n6,n7,n8,n9⟩:=h.ne
 have hkl:=aj hk
 have g:∀ (i:Nat) o,H[i]? = some o→i≠P.di→(H.set P.di (.cells 1 ((D.set k true).map AVal.bool))++[nObj []])[i]? = some o:=fun i o hi hne=>by
  rw [ah (by rw [br]; exact aj hi),ai hne.symm]; exact hi
 obtain ⟨s1,s2,s3,s4,s5⟩:=h.same (H':=H.set P.di (.cells 1 ((D.set k true).map AVal.bool))++[nObj []]) hP fun i o _ hi _ _ _ hd _=>g i o hi hd
 have hln:=h.len
 have hdl:=aj h.dn
 have hDk:∀ i,(D.set k true)[i]? = if i=k then some true else D[i]?:=fun i=>by
  by_cases e:i=k
  ·subst e; rw [bv hkl,if_pos rfl]
  ·rw [ai (Ne.symm e),if_neg e]
 refine ⟨s1,g _ _ h.cs n3,g _ _ h.ms n6,g _ _ h.ss hP.ne.1,?_,g _ _ h.zs n9.symm,s2,s3,s4,s5,h.cl,h.ml,by simpa using h.dl,h.sl,by simp; omega,fun i hi=>?_,fun i hd hq=>?_,fun i u hu hd=>?_,fun i u fr j m hu hf hm=>?_,fun i u n d hu=>?_⟩
 ·rw [ah (by rw [br]; exact hdl)]; exact ic h.dn
 ·rw [bc,br]
  rcases hi with hi | hi
  ·have:=h.xl i hi; simp; omega
  ·subst hi; simp
 ·have hne:i≠k:=fun e=>hq (.inr e)
  rw [hDk,if_neg hne] at hd
  refine (h.fin i hd fun e=>hq (.inl e)).keep rfl rfl (fun q e=>?_) (fun j o hj hg _=>g j o hg (by have:=hP.lts; omega)) (fun j cs hj hg=>g j _ hg (by have:=hP.lts; omega))
  rcases e with e | e
  ·exact .inl e
  ·exact .inr (by omega)
 ·refine h.ini i u hu ?_
  rw [hDk] at hd
  by_cases e:i=k
  ·subst e; exact .inl hk
  ·rw [if_neg e] at hd
   rcases hd with hd | hd | hd
   ·exact .inl hd
   ·exact .inr hd
   ·exact absurd hd e
 ·rw [h.mst i u fr j m hu hf hm,hDk]
  by_cases e:i=k
  ·subst e; rw [hk,if_neg (by simp),if_neg (by simp)]
  ·rw [if_neg e]
   by_cases hc:D[i]? = some true∧¬ Q i
   ·rw [if_pos hc,if_pos ⟨hc.1,fun h'=>h'.elim hc.2 e⟩]
   ·rw [if_neg hc,if_neg fun h'=>hc ⟨h'.1,fun q=>h'.2 (.inl q)⟩]
 ·rw [h.zst i u n d hu,hDk]
  by_cases e:i=k
  ·subst e; rw [hk,if_neg (by simp),if_neg (by simp)]
  ·rw [if_neg e]
   by_cases hc:D[i]? = some true∧¬ Q i
   ·rw [if_pos hc,if_pos ⟨hc.1,fun h'=>h'.elim hc.2 e⟩]
   ·rw [if_neg hc,if_neg fun h'=>hc ⟨h'.1,fun q=>h'.2 (.inl q)⟩]
end
end Go.Abs.AbsSlot

namespace Go.Abs.AbsSlot
open Go.Abs.AbsHier Go.Abs.AbsDesc
theorem idxN_keep {N:List Nm} {k k':Nm} {s:Nat} (h:idxN N k=some s):idxN (N++[k']) k=some s:=by
 unfold idxN at h ⊢
 rw [List.findIdx?_append,h]; rfl
theorem jq {fr:Nat}:∀ (ms:List MethU) (i:Nat) (N:List Nm) (T:List Int) {k:Nm} {s:Nat},idxN N k=some s→idxN (methsT fr i ms N T).1 k=some s
 | [],i,N,T,k,s,h=>h
 | m :: ms,i,N,T,k,s,h=>by
  simp only [methsT]
  split
  ·exact jq ms _ _ _ h
  ·split
   ·exact jq ms _ _ _ h
   ·exact jq ms _ _ _ (idxN_keep h)
theorem jk {fr:Nat}:∀ (ms:List MethU) (i:Nat) (N:List Nm) (M:List LMethU) (q:Nat),(∀ j,j < ms.length→q≠fr+i+j)→(methsM fr i ms N M)[q]? = M[q]?
 | [],i,N,M,q,h=>rfl
 | m :: ms,i,N,M,q,h=>by
  have h0:=h 0 (by simp)
  have h1:∀ j,j < ms.length→q≠fr+(i+1)+j:=fun j hj=>by have:=h (j+1) (by simp; exact hj); omega
  simp only [methsM]
  split
  ·exact jk ms _ _ _ _ h1
  ·split
   ·rw [jk ms _ _ _ _ h1,gy]; simp [show ¬ fr+i=q by omega]
   ·rw [jk ms _ _ _ _ h1,gy]; simp [show ¬ fr+i=q by omega]
theorem methsM_len {fr:Nat}:∀ (ms:List MethU) (i:Nat) (N:List Nm) (M:List LMethU),(methsM fr i ms N M).length=M.length
 | [],i,N,M=>rfl
 | m :: ms,i,N,M=>by
  simp only [methsM]
  split
  ·exact methsM_len ms _ _ _
  ·split
   ·rw [methsM_len ms]; simp
   ·rw [methsM_len ms]; simp
theorem methsM_get {fr:Nat}:∀ (ms:List MethU) (i:Nat) (N:List Nm) (T:List Int) (M:List LMethU) (j:Nat) (m:MethU),ms[j]? = some m →
  (methsM fr i ms N M)[fr+i+j]? = (M[fr+i+j]?).map fun y=>if m.st then y else slotM ((idxN (methsT fr i ms N T).1 (m.name,m.desc)).getD 0) y
 | [],i,N,T,M,j,m,h=>by simp at h
 | x :: ms,i,N,T,M,0,m,h=>by
  simp at h; subst h
  have h1:∀ j,j < ms.length→fr+i+0≠fr+(i+1)+j:=fun j hj=>by omega
  simp only [methsM,methsT]
  cases hst:x.st with
  | true =>
   simp only [if_true]
   rw [jk ms _ _ _ _ h1]
   cases M[fr+i+0]? <;> rfl
  | false =>
   simp only [av,if_false]
   cases hx:idxN N (x.name,x.desc) with
   | some s =>
    simp only
    rw [jk ms _ _ _ _ h1,jq ms _ _ _ hx,gy]
    simp
   | none =>
    simp only
    rw [jk ms _ _ _ _ h1,jq ms _ _ _ (s:=N.length) (by rw [idxN_snoc hx,if_pos rfl]),gy]
    simp
 | x :: ms,i,N,T,M,j+1,m,h=>by
  simp at h
  have e:fr+i+(j+1)=fr+(i+1)+j:=by omega
  rw [e]
  simp only [methsM,methsT]
  cases hst:x.st with
  | true =>
   simp only [if_true]
   exact methsM_get ms (i+1) N T M j m h
  | false =>
   simp only [av,if_false]
   cases hx:idxN N (x.name,x.desc) with
   | some s =>
    simp only
    rw [methsM_get ms (i+1) N (T.set s ((fr+i:Nat):Int)) _ j m h,gy]
    simp [show ¬ fr+i=fr+(i+1)+j by omega]
   | none =>
    simp only
    rw [methsM_get ms (i+1) _ (T++[((fr+i:Nat):Int)]) _ j m h,gy]
    simp [show ¬ fr+i=fr+(i+1)+j by omega]
theorem getE_put {κ ν:Type} [DecidableEq κ] (k k':κ) (v:ν):∀ A:List (κ × ν),getE (putE A k v) k'=if k=k' then some v else getE A k'
 | []=>by simp [putE,getE]
 | x :: A=>by
  simp only [putE]
  by_cases e:x.1=k
  ·rw [if_pos e]
   simp only [getE,e]
   by_cases e2:k=k' <;> simp [e2]
  ·rw [if_neg e]
   simp only [getE,getE_put k k' v A]
   by_cases e2:k=k'
   ·subst e2; simp [e]
   ·by_cases e3:x.1=k' <;> simp [e2,e3]
theorem cellsZ_get {cl:Str} (k:Key):∀ (fs:List FieldU) (n:Int) (Z Z':List (Key × Int)),getE Z k=getE Z' k→getE (cellsZ cl fs n Z) k=getE (cellsZ cl fs n Z') k
 | [],n,Z,Z',h=>h
 | f :: fs,n,Z,Z',h=>by
  simp only [cellsZ]
  split
  ·exact cellsZ_get k fs n Z Z' h
  ·refine cellsZ_get k fs _ _ _ ?_
   rw [getE_put,getE_put,h]
theorem cellsZ_other {cl:Str} (k:Key) (hk:k.1≠cl):∀ (fs:List FieldU) (n:Int) (Z:List (Key × Int)),getE (cellsZ cl fs n Z) k=getE Z k
 | [],n,Z=>rfl
 | f :: fs,n,Z=>by
  simp only [cellsZ]
  split
  ·exact cellsZ_other k hk fs n Z
  ·rw [cellsZ_other k hk fs,getE_put,if_neg]
   intro e; subst e; exact hk rfl
section
variable {P:Par} {b:Nat} {H H':List AObj} {C:List LClsU} {M:List LMethU} {D:List Bool} {S:List (Option Nat)} {Z:List (Key × Int)} {Q X:Nat→Prop}
theorem LS.close {k m2 fr:Nat} {u:UnitU} {c':LClsU} {A:List (Nm × Int)} (h:LS P H C M D S Z (fun i=>Q i∨i=k) (fun i=>X i∨i=m2)) (hP:P.ok b) (hk:D[k]? = some true) (hQ:¬ Q k) (hu:P.W[k]? = some u) (hf:P.F[k]? = some fr) (hX:∀ i,X i→i < m2) (hm2:P.lt≤m2) (hmo:H[m2]? = some (nObj []))
  (fm:∀ i o,H[i]? = some o→i≠P.ci→i≠P.mi→i≠P.si→i≠P.mz→i≠m2→H'[i]? = some o) (len:H.length≤H'.length)
  (hcs:H'[P.ci]? = some (.cells 5 ((C.set k c').flatMap LClsU.cells))) (hc':c'.name=u.name∧c'.super=supI (P.sup k)∧c'.cells'=(P.R k).cells∧c'.refs=(P.R k).refs∧c'.table=(P.R k).table) (hr1:RV 1 intC P.lt H' c'.refs c'.ra c'.rc) (hr2:RV 1 intC P.lt H' c'.table c'.ta c'.tc)
  (hms:H'[P.mi]? = some (.cells 6 ((methsM fr 0 u.meths (P.base k).names M).flatMap LMethU.cells))) (hss:H'[P.si]? = some (.cells 1 ((S.set k (some m2)).map AVal.map))) (hzs:H'[P.mz]? = some (zObj (cellsZ u.name u.fields (P.base k).cells Z))) (has:H'[m2]? = some (nObj A)) (hA:MI A (P.R k).names) :
  LS P H' (C.set k c') (methsM fr 0 u.meths (P.base k).names M) D (S.set k (some m2)) (cellsZ u.name u.fields (P.base k).cells Z) Q X:=by
 obtain ⟨n1,n2,n3,n4,n5,n6,n7,n8,n9⟩:=h.ne
 obtain ⟨l1,l2,l3,l4,l5,l6,l7,l8,l9⟩:=hP.lts
 have hkl:=aj hu
 obtain ⟨s1,s2,s3,s4,s5⟩:=h.same (H':=H') hP fun i o hi hg q1 q2 q3 _ q5=>fm i o hg q1 q2 q3 q5 (by omega)
 have hxm:m2 < H.length:=h.xl m2 (.inr rfl)
 refine ⟨s1,hcs,hms,hss,fm _ _ h.dn n3.symm n6.symm hP.ne.1.symm n9 (by omega),hzs,s2,s3,s4,s5,by simpa using h.cl,by rw [methsM_len]; exact h.ml,h.dl,by simpa using h.sl,by have:=h.len; omega,fun i hi=>by have:=hX i hi; omega,fun i hd hq=>?_,fun i v hv hd=>?_,fun i v fr' j m hv hf' hm=>?_,fun i v n d hv=>?_⟩
 ·by_cases e:i=k
  ·subst e
   exact ⟨u,c',m2,A,hu,bv (by rw [h.cl]; exact hkl),hc',hr1,hr2,bv (by rw [h.sl]; exact hkl),hm2,has,hA,fun e=>by have:=hX _ e; omega⟩
  ·refine (h.fin i hd fun q=>q.elim hq e).keep (ai (Ne.symm e)) (ai (Ne.symm e)) (fun q hq=>.inl (.inl hq)) (fun j o hj hg hx=>fm j o hg (by omega) (by omega) (by omega) (by omega) fun e'=>hx (.inr e')) fun j cs hj hg=>?_
   by_cases e':j=m2
   ·rw [e',hmo] at hg; cases hg
   ·exact fm j _ hg (by omega) (by omega) (by omega) (by omega) e'
 ·rw [ai]
  ·exact h.ini i v hv (hd.imp id .inl)
  ·intro e; subst e
   rcases hd with hd | hd
   ·rw [hk] at hd; cases hd
   ·exact hQ hd
 ·by_cases e:i=k
  ·subst e
   rw [hu] at hv; cases hv
   rw [hf] at hf'; cases hf'
   rw [if_pos ⟨hk,hQ⟩]
   have:=methsM_get (fr:=fr) u.meths 0 (P.base i).names (P.base i).table M j m hm
   rw [ef] at this
   rw [this,h.mst i u fr j m hu hf hm,if_neg (fun q=>q.2 (.inr rfl))]
   congr 1
   funext y
   unfold Par.slot
   rw [hP.r i u fr hu hf]; rfl
  ·rw [jk _ _ _ _ _ fun j' hj'=>by
    rw [ef]
    exact hP.dis i k v u fr' fr j j' hv hu hf' hf (aj hm) hj' e]
   rw [h.mst i v fr' j m hv hf' hm]
   by_cases hc:D[i]? = some true∧¬ Q i
   ·rw [if_pos hc,if_pos ⟨hc.1,fun q=>q.elim hc.2 e⟩]
   ·rw [if_neg hc,if_neg fun q=>hc ⟨q.1,fun q'=>q.2 (.inl q')⟩]
 ·by_cases e:i=k
  ·subst e
   rw [hu] at hv; cases hv
   rw [if_pos ⟨hk,hQ⟩]
   refine cellsZ_get _ _ _ _ _ ?_
   rw [h.zst i u n d hu,if_neg fun q=>q.2 (.inr rfl)]
  ·have hne:v.name≠u.name:=fun en=>by
    have h1:=hP.u i v hv
    have h2:=hP.u k u hu
    rw [en,h2] at h1
    injection h1 with h1
    omega
   rw [cellsZ_other _ hne,h.zst i v n d hv]
   by_cases hc:D[i]? = some true∧¬ Q i
   ·rw [if_pos hc,if_pos ⟨hc.1,fun q=>q.elim hc.2 e⟩]
   ·rw [if_neg hc,if_neg fun q=>hc ⟨q.1,fun q'=>q.2 (.inl q')⟩]
end
end Go.Abs.AbsSlot

namespace Go.Abs.AbsSlot
open Go.Abs.AbsHier Go.Abs.AbsDesc
open Go.Abs.Short
def u161a:ACode:=R [0,1,2,8,9,10] [v 48 0,v 49 8,o 50 (.nilcheck (t 49)),o 51 (.faddr (t 50) 1),o 52 (.load none (t 51)),v 53 2,v 54 3,o 55 (.callg 161 [t 48,t 52,t 53,t 54])]
def u161b:ACode:=.after (.region [⟨true,[],[v 56 0,o 57 (.nilcheck (t 56)),o 58 (.faddr (t 57) 0),o 59 (.faddr (t 58) 0),o 60 (.load none (t 59)),v 61 8,o 62 (.nilcheck (t 61)),o 63 (.faddr (t 62) 1),o 64 (.load none (t 63)),o 65 (.iaddr 5 (t 60) (t 64)),o 66 (.load (some 5) (t 65)),o 11 (.lalloc [.str [],.int .i64 0,.int .i64 0,.slice none 0 (some 0),.slice none 0 (some 0)])]⟩,⟨false,[],[u (.store 5 (t 11) (t 66))]⟩]) [0,1,2,8,9,10,11]
def u161c:ACode:=.after (.region [⟨true,[0,0,0,0,8,0,32,96,0,256,992,2041,4089,8185,16379,32763,65531],[v 67 8,v 68 8,v 69 8,o 70 (.faddr (t 11) 2),o 71 (.load none (t 70)),o 72 (.faddr (t 11) 3),o 73 (.load none (t 72)),o 74 (.callg 211 [t 73]),o 75 (.faddr (t 11) 4),o 76 (.load none (t 75)),o 77 (.callg 211 [t 76]),o 78 (.nilcheck (t 67)),o 79 (.faddr (t 78) 2),u (.ext (.hstore 1) [t 79,t 71]),o 80 (.nilcheck (t 68)),o 81 (.faddr (t 80) 3),u (.ext (.hstore 1) [t 81,t 74])]⟩,⟨false,[],[o 82 (.nilcheck (t 69)),o 83 (.faddr (t 82) 4),u (.store 1 (t 83) (t 77))]⟩]) [0,1,2,8,9,10]
def u161d:ACode:=.after (.region [⟨true,[],[v 84 0,o 85 (.nilcheck (t 84)),o 86 (.faddr (t 85) 5),o 87 (.load none (t 86)),v 88 8,o 89 (.nilcheck (t 88)),o 90 (.faddr (t 89) 1),o 91 (.load none (t 90))]⟩,⟨false,[],[o 92 (.iaddr 1 (t 87) (t 91)),o 93 (.load none (t 92)),o 94 (.ext .mkiter [t 93])]⟩]) [0,1,2,8,9,10,94]
def u161e:ACode:=.after (.block 0 (.loop code161L1)) [0,1,2,8,9,10]
def s161:ACode:=.seq u161a (.seq u161b (.seq u161c (.seq u161d u161e)))
def a161a:ACode:=.seq (R [0,1,2,3,22] [v 19 3,v 20 1,o 21 (.iaddr 1 (t 19) (t 20)),o 22 (.load none (t 21))])
 (.after (.cond (t 22) (.live [] (.ret)) (.skip)) [0,1,2,3])
def a161b:ACode:=R [0,1,2,3] [v 23 3,v 24 1,o 25 (.iaddr 1 (t 23) (t 24)),u (.store 1 (t 25) Y)]
def a161c:ACode:=R [0,1,2,3,8] [v 26 0,o 27 (.nilcheck (t 26)),o 28 (.faddr (t 27) 0),o 29 (.faddr (t 28) 0),o 30 (.load none (t 29)),v 31 1,o 32 (.iaddr 5 (t 30) (t 31)),v 8 32]
def a161d:ACode:=.after (.region [⟨true,[],[v 33 0,o 34 (.nilcheck (t 33)),o 35 (.faddr (t 34) 7),o 36 (.load none (t 35)),v 37 8,o 38 (.nilcheck (t 37)),o 39 (.faddr (t 38) 0),o 40 (.load none (t 39))]⟩,⟨false,[],[o 41 (.ext (.lookup (.one .s) (.ptr none) false) [t 36,t 40]),v 9 41]⟩]) [0,1,2,3,8,9]
def a161e:ACode:=R [0,1,2,3,8,9,10] [o 42 (.ext .mkmap []),v 10 42]
def a161f:ACode:=.seq (R [0,1,2,3,8,9,10,47] [v 43 8,o 44 (.nilcheck (t 43)),o 45 (.faddr (t 44) 1),o 46 (.load none (t 45)),o 47 (.bin .geq (t 46) (n 0))]) (.after (.cond (t 47) s161 (.skip)) [0,1,2,8,9,10])
def a161g:ACode:=R [0,1,2,8,9,10] [v 103 0,v 104 8,v 105 9,o 106 (.callg 286 [t 103,t 104,t 105])]
def a161h:ACode:=.seq (R [0,1,2,8,10,110,111,112] [v 107 9,o 108 (.nilcheck (t 107)),o 109 (.faddr (t 108) 3),o 110 (.load none (t 109)),o 111 (.len .sl (t 110)),o 112 (.val (n 0))])
 (.after (.block 2 (.loop code161L0)) [0,1,10])
def a161i:ACode:=R [] [v 181 0,o 182 (.nilcheck (t 181)),o 183 (.faddr (t 182) 5),o 184 (.load none (t 183)),v 185 1,v 186 10,o 187 (.iaddr 1 (t 184) (t 185)),u (.store 1 (t 187) (t 186))]
theorem body161:code161.body = .seq a161a (.seq a161b (.seq a161c (.seq a161d (.seq a161e (.seq a161f (.seq a161g (.seq a161h a161i))))))):=rfl
section
variable {β:Type} {H:List AObj} {b w k K ci di si mu ui n:Nat} {X Y:List AVal} {cap cc:Option Nat} {x0 x1 x2 x3 x9 x10 y1 y2 y3 y4 y5 y6 y7:AVal} (k':AExit→St→Option β)
section
attribute [-simp] getElem?_pos getElem?_neg List.all_eq_true
attribute [local simp] gz gs nltT nltF iltT iltF ileT nleT dh
theorem ra161 (hd:H[di]? = some (.cells 1 X)) (hx:X[k]? = some (.bool false)) (hk:k < n) :
  xK T a161a ⟨[(0,.val x0),(1,.val (.int .i64 k)),(2,.val x2),(3,.val (.slice (some (di,0)) n cap))],⟨H,b,w⟩⟩ (k:=⟨k'⟩)=k' .normal ⟨[(0,.val x0),(1,.val (.int .i64 k)),(2,.val x2),(3,.val (.slice (some (di,0)) n cap))],⟨H,b,w⟩⟩:=by
 simp (disch:=omega) [a161a,hd,hx]
theorem rt161 (hd:H[di]? = some (.cells 1 X)) (hx:X[k]? = some (.bool true)) (hk:k < n) :
  xK T a161a ⟨[(0,.val x0),(1,.val (.int .i64 k)),(2,.val x2),(3,.val (.slice (some (di,0)) n cap))],⟨H,b,w⟩⟩ (k:=⟨k'⟩)=k' .ret ⟨[],⟨H,b,w⟩⟩:=by
 simp (disch:=omega) [a161a,hd,hx]
theorem rb161 (hd:H[di]? = some (.cells 1 X)) (hl:k < X.length) (hk:k < n) (hb:b≤di) (hy:X.take k ++ .bool true :: X.drop (k+1)=Y) :
  xK T a161b ⟨[(0,.val x0),(1,.val (.int .i64 k)),(2,.val x2),(3,.val (.slice (some (di,0)) n cap))],⟨H,b,w⟩⟩ (k:=⟨k'⟩)=k' .normal ⟨[(0,.val x0),(1,.val (.int .i64 k)),(2,.val x2),(3,.val (.slice (some (di,0)) n cap))],⟨H.set di (.cells 1 Y),b,min w di⟩⟩:=by
 simp (disch:=omega) [a161b,hd,hy]
theorem rc161 (hK:H[K]? = some (.cells 8 (.slice (some (ci,0)) n cc :: X))) (hk:k < n) :
  xK T a161c ⟨[(0,.val (.ptr (some (K,0)))),(1,.val (.int .i64 k)),(2,.val x2),(3,.val x3)],⟨H,b,w⟩⟩ (k:=⟨k'⟩)=k' .normal ⟨[(0,.val (.ptr (some (K,0)))),(1,.val (.int .i64 k)),(2,.val x2),(3,.val x3),(8,.val (.ptr (some (ci,k*5))))],⟨H,b,w⟩⟩:=by
 simp (disch:=omega) [a161c,hK]
theorem rd161 {U:List (Str × Nat)} {q:Nat} {nm:Str} (hK:H[K]? = some (.cells 8 [y1,y2,y3,y4,y5,y6,y7,.map (some mu)])) (hc:H[ci]? = some (.cells 5 X)) (hx:X[k*5]? = some (.str nm)) (hu:H[mu]? = some (mObj AVal.str (fun q=>.ptr (some (ui,q))) U)) (hq:getE U nm=some q) :
  xK T a161d ⟨[(0,.val (.ptr (some (K,0)))),(1,.val x1),(2,.val x2),(3,.val x3),(8,.val (.ptr (some (ci,k*5))))],⟨H,b,w⟩⟩ (k:=⟨k'⟩)=k' .normal ⟨[(0,.val (.ptr (some (K,0)))),(1,.val x1),(2,.val x2),(3,.val x3),(8,.val (.ptr (some (ci,k*5)))),(9,.val (.ptr (some (ui,q))))],⟨H,b,w⟩⟩:=by
 have hl:=fun w=>lookup_v (b:=b) (w:=w) (kn:=.one .s) (zero:=.ptr none) keyStr hu (k:=nm) rfl
 rw [hq] at hl
 simp (disch:=omega) [-evExt,a161d,hK,hc,hx,hl]
theorem re161:xK T a161e ⟨[(0,.val x0),(1,.val x1),(2,.val x2),(3,.val x3),(8,.val y1),(9,.val y2)],⟨H,b,w⟩⟩ (k:=⟨k'⟩)=k' .normal ⟨[(0,.val x0),(1,.val x1),(2,.val x2),(3,.val x3),(8,.val y1),(9,.val y2),(10,.val (.map (some H.length)))],⟨H++[nObj []],b,w⟩⟩:=by
 have:nObj [] = .map [] 0:=rfl
 rw [this]
 simp (disch:=omega) [a161e]
theorem rg161 {v:AVal} {H':List AObj} {w':Nat} (h:xCall T 286 [x0,y1,y2] ⟨H,b,w⟩=some (v,⟨H',b,w'⟩)):xK T a161g ⟨[(0,.val x0),(1,.val x1),(2,.val x2),(8,.val y1),(9,.val y2),(10,.val x10)],⟨H,b,w⟩⟩ (k:=⟨k'⟩)=k' .normal ⟨[(0,.val x0),(1,.val x1),(2,.val x2),(8,.val y1),(9,.val y2),(10,.val x10)],⟨H',b,w'⟩⟩:=by
 simp (disch:=omega) [a161g,h]
theorem ri161 {m2:Nat} {X2:List AVal} (hK:H[K]? = some (.cells 8 [y1,y2,y3,y4,y5,.slice (some (si,0)) n cap,y6,y7])) (hs:H[si]? = some (.cells 1 X)) (hk:k < n) (hl:k < X.length) (hb:b≤si) (hy:X.take k ++ .map (some m2) :: X.drop (k+1)=X2) :
  xK T a161i ⟨[(0,.val (.ptr (some (K,0)))),(1,.val (.int .i64 k)),(10,.val (.map (some m2)))],⟨H,b,w⟩⟩ (k:=⟨k'⟩)=k' .normal ⟨[],⟨H.set si (.cells 1 X2),b,min w si⟩⟩:=by
 simp (disch:=omega) [a161i,hK,hs,hy]
theorem ub161 (hK:H[K]? = some (.cells 8 (.slice (some (ci,0)) n cc :: Y))) (hc:H[ci]? = some (.cells 5 X)) {j:Nat} (hx:X[k*5+1]? = some (.int .i64 j)) (hj:j < n) {c:LClsU} (hxc:(X.drop (j*5)).take 5=c.cells) (hl:j*5+5≤X.length) :
  xK T u161b ⟨[(0,.val (.ptr (some (K,0)))),(1,.val x1),(2,.val x2),(8,.val (.ptr (some (ci,k*5)))),(9,.val x9),(10,.val x10)],⟨H,b,w⟩⟩ (k:=⟨k'⟩)=k' .normal ⟨[(0,.val (.ptr (some (K,0)))),(1,.val x1),(2,.val x2),(8,.val (.ptr (some (ci,k*5)))),(9,.val x9),(10,.val x10),(11,.var c.cells)],⟨H,b,w⟩⟩:=by
 have hcc:c.cells=[.str c.name,.int .i64 c.super,.int .i64 c.cells',.slice c.ra c.refs.length c.rc,.slice c.ta c.table.length c.tc]:=rfl
 rw [hcc] at hxc ⊢
 simp (disch:=omega) [u161b,hK,hc,hx,hxc]
theorem ud161 {m1 cl j:Nat} {es:List (AVal × AVal × Nat)} (hK:H[K]? = some (.cells 8 [y1,y2,y3,y4,y5,.slice (some (si,0)) n cap,y6,y7])) (hc:H[ci]? = some (.cells 5 X)) (hx:X[k*5+1]? = some (.int .i64 j)) (hj:j < n) (hs:H[si]? = some (.cells 1 Y)) (hy:Y[j]? = some (.map (some m1))) (hm:H[m1]? = some (.map es cl)) :
  xK T u161d ⟨[(0,.val (.ptr (some (K,0)))),(1,.val x1),(2,.val x2),(8,.val (.ptr (some (ci,k*5)))),(9,.val x9),(10,.val x10)],⟨H,b,w⟩⟩ (k:=⟨k'⟩)=k' .normal ⟨[(0,.val (.ptr (some (K,0)))),(1,.val x1),(2,.val x2),(8,.val (.ptr (some (ci,k*5)))),(9,.val x9),(10,.val x10),(94,.val (.ptr (some (H.length,0))))],⟨H++[.mapIter (some m1) cl [] cl],b,w⟩⟩:=by
 simp (disch:=omega) [u161d,hK,hc,hx,hs,hy,hm]
end
end
end Go.Abs.AbsSlot

namespace Go.Abs.AbsSlot
open Go.Abs.AbsHier Go.Abs.AbsDesc
open Go.Abs.Short
def clR (L:List Int):List AObj:=if L=[] then [] else [.cells 1 (L.map (AVal.int .i64))]
theorem ids_take {X:List AVal} {n i:Nat} (h:i ∈ AVal.idsL (X.take n)):i ∈ AVal.idsL X:=by
 rw [← List.take_append_drop n X,lk]; exact eq _ h
theorem ids_drop {X:List AVal} {n i:Nat} (h:i ∈ AVal.idsL (X.drop n)):i ∈ AVal.idsL X:=by
 rw [← List.take_append_drop n X,lk]; exact gg _ h
theorem all_old {X:List AVal} {n m:Nat} {ds:List Did} (h:∀ i ∈ AVal.idsL X,i < n):(AVal.idsL X).all (okId n m ds)=true :=
 al.2 fun i hi=>by simp [okId,h i hi]
theorem clO_eq (O:List AObj) (L:List Int):clO O L=O++clR L:=by
 unfold clO clR; split <;> simp
section
variable {β:Type} {H:List AObj} {b w k ci lt:Nat} {X X1 X2 X3:List AVal} {x0 x1 x2 x9 x10:AVal} (k':AExit→St→Option β)
set_option maxHeartbeats 1000000 in
theorem uc161 {c:LClsU} (hc:H[ci]? = some (.cells 5 X)) (hl:k*5+5≤X.length) (h1:RV 1 intC lt H c.refs c.ra c.rc) (h2:RV 1 intC lt H c.table c.ta c.tc) (n1:c.refs.length≤1000000) (n2:c.table.length≤1000000) (hb:b≤ci) (hbl:b≤H.length)
  (t1:X.take (k*5+2) ++ .int .i64 c.cells' :: X.drop (k*5+2+1)=X1) (t2:X1.take (k*5+3)++clV H.length c.refs :: X1.drop (k*5+3+1)=X2) (t3:X2.take (k*5+4)++clV (H.length+(clR c.refs).length) c.table :: X2.drop (k*5+4+1)=X3)
  (l1:X1.length=X.length) (l2:X2.length=X.length) (hX:∀ i ∈ AVal.idsL X,i < H.length) :
  xK T u161c ⟨[(0,.val x0),(1,.val x1),(2,.val x2),(8,.val (.ptr (some (ci,k*5)))),(9,.val x9),(10,.val x10),(11,.var c.cells)],⟨H,b,w⟩⟩ (k:=⟨k'⟩) =
   k' .normal ⟨[(0,.val x0),(1,.val x1),(2,.val x2),(8,.val (.ptr (some (ci,k*5)))),(9,.val x9),(10,.val x10)],⟨(H++clR c.refs++clR c.table).set ci (.cells 5 X3),b,min w ci⟩⟩:=by
 have hcc:c.cells=[.str c.name,.int .i64 c.super,.int .i64 c.cells',.slice c.ra c.refs.length c.rc,.slice c.ta c.table.length c.tc]:=rfl
 have hci:=aj hc
 have q1:=fun w=>s211 (b:=b) h1 n1 w
 have q2:=fun w=>s211 (b:=b) h2 n2 w
 have q3:=fun (X:AObj) w=>s211 (O:=H++[X]) (b:=b) (h2.keep (H':=H++[X]) fun p q o _ hg=>by rw [ah (aj hg)]; exact hg) n2 w
 have g1:∀ Y:List AObj,(H++Y)[ci]? = some (.cells 5 X):=fun Y=>by rw [ah hci]; exact hc
 have g2:∀ (D:AObj) (Y:List AObj),(H.set ci D++Y)[ci]? = some D:=fun D Y=>by rw [ah (by simpa using hci)]; exact bv hci
 have hX1:∀ i ∈ AVal.idsL X1,i < H.length:=fun i hi=>by
  rw [← t1,lk,bg] at hi
  rcases hi with hi | hi
  ·exact hX i (ids_take hi)
  ·simp only [AVal.idsL,AVal.ids,c9] at hi
   exact hX i (ids_drop hi)
 have a1:∀ m ds,(AVal.idsL X1).all (okId H.length m ds)=true:=fun m ds=>all_old hX1
 have a2:∀ m ds,(AVal.idsL X2).all (okId H.length m ds)=(clV H.length c.refs).ids.all (okId H.length m ds):=fun m ds=>by
  rw [← t2,lk,List.all_append,all_old (fun i hi=>hX1 i (ids_take hi)),gn]
  simp only [AVal.idsL,List.all_append]
  rw [all_old (fun i hi=>hX1 i (ids_drop hi)),Bool.and_true]
 have s1:∀ (D:AObj) (Y:List AObj),(H++Y).set ci D=H.set ci D++Y:=fun D Y=>List.set_append_left _ _ hci
 have s2:∀ (D D':AObj) (Y:List AObj),(H.set ci D++Y).set ci D'=H.set ci D'++Y:=fun D D' Y=>by rw [List.set_append_left _ _ (by simpa using hci),gr]
 rw [hcc]
 rcases h1 with ⟨e1,r1,_⟩ | ⟨e1,p1,_,r1,_,r2'⟩ <;> rcases h2 with ⟨e2,r3,_⟩ | ⟨e2,p2,_,r3,_,r4'⟩
 case' inl.inr=>have r4:=aj r4'
 case' inr.inl=>have r2:=aj r2'
 case' inr.inr=>have r2:=aj r2'; have r4:=aj r4'
 all_goals
  simp only [clV,clO,clR,e1,e2,if_true,if_false,kx,co,ef,cz,r1,r3] at q1 q2 q3 t2 t3 a2 ⊢
  simp (maxSteps:=3000000) (disch:=omega) [-getElem?_pos,-getElem?_neg,-List.all_eq_true,gz,gs,nltT,nltF,iltT,iltF,ileT,nleT,dh,-sget,sgetN,sgetH,sgetT,ce,u161c,q1,q2,q3,hc,g1,g2,s1,s2,t1,t2,t3,l1,l2,idsC,idsL_int,a1,a2]
end
end Go.Abs.AbsSlot

namespace Go.Abs.AbsSlot
open Go.Abs.AbsHier Go.Abs.AbsDesc
open Go.Abs.Short
theorem CodeD.run {E:Env} {T:Nat→Option AFunc} (hT:Agrees E T) (hm:E.P.follows .mixedOrders=true) {c:ACode} {st st':St} {e:AExit} {Q:AExit→St→Prop} (h:∀ k':AExit→St→Option Unit,xK T c st (k:=⟨k'⟩)=k' e st') (hq:Q e st'):CodeD E c st Q :=
 CodeD.of_k hT hm (by rw [h]; exact okIf_iff.2 hq)
section
variable {β:Type} {H:List AObj} {b w k ci:Nat} {X:List AVal} {x0 x1 x2 x3 x9 x10:AVal} (k':AExit→St→Option β)
section
attribute [-simp] getElem?_pos getElem?_neg List.all_eq_true
attribute [local simp] gz gs nltT nltF iltT iltF ileT nleT dh
theorem rf161 {s:Int} (hc:H[ci]? = some (.cells 5 X)) (hx:X[k*5+1]? = some (.int .i64 s)) :
  xK T (R [0,1,2,3,8,9,10,47] [v 43 8,o 44 (.nilcheck (t 43)),o 45 (.faddr (t 44) 1),o 46 (.load none (t 45)),o 47 (.bin .geq (t 46) (n 0))]) ⟨[(0,.val x0),(1,.val x1),(2,.val x2),(3,.val x3),(8,.val (.ptr (some (ci,k*5)))),(9,.val x9),(10,.val x10)],⟨H,b,w⟩⟩ (k:=⟨k'⟩) =
   k' .normal ⟨[(0,.val x0),(1,.val x1),(2,.val x2),(3,.val x3),(8,.val (.ptr (some (ci,k*5)))),(9,.val x9),(10,.val x10),(47,.val (.bool (decide (0≤s))))],⟨H,b,w⟩⟩:=by
 simp (disch:=omega) [hc,hx]
theorem rh161 {ui uo w' m2 n':Nat} {us:List AVal} {y1:AVal} {H':List AObj} {c:Option Nat} {ma:Option (Nat × Nat)} (hu:H[ui]? = some (.cells 4 us)) (hx:us[uo+3]? = some (.slice ma n' c))
  (hl:∀ {β:Type} (k':AExit→St→Option β),xK T (.loop code161L0) ⟨[(0,.val x0),(1,.val (.int .i64 k)),(2,.val x2),(8,.val y1),(10,.val (.map (some m2))),(110,.val (.slice ma n' c)),(111,.val (.int .i64 n')),(112,.val (.int .i64 (0:Nat)))],⟨H,b,w⟩⟩ (k:=⟨k'⟩)=k' (.exit 2) ⟨[(0,.val x0),(1,.val (.int .i64 k)),(10,.val (.map (some m2)))],⟨H',b,w'⟩⟩) :
  xK T a161h ⟨[(0,.val x0),(1,.val (.int .i64 k)),(2,.val x2),(8,.val y1),(9,.val (.ptr (some (ui,uo)))),(10,.val (.map (some m2)))],⟨H,b,w⟩⟩ (k:=⟨k'⟩)=k' .normal ⟨[(0,.val x0),(1,.val (.int .i64 k)),(10,.val (.map (some m2)))],⟨H',b,w'⟩⟩:=by
 have hl:=fun (k':AExit→St→Option β)=>hl k'
 simp only [bf] at hl
 simp (disch:=omega) [a161h,hu,hx,hl]
end
end
structure Mid (P:Par) (k m2:Nat) (u:UnitU) (H3 H5:List AObj) (C:List LClsU) (M:List LMethU) (D:List Bool) (S:List (Option Nat)) (Z:List (Key × Int)) (Q X:Nat→Prop) (c:LClsU) (A:List (Nm × Int)):Prop where
 ls:LS P H3 C M D S Z (fun i=>Q i∨i=k) (fun i=>X i∨i=m2)
 dk:D[k]? = some true
 mo:H3[m2]? = some (nObj [])
 len:H3.length≤H5.length
 fm:∀ i o,H3[i]? = some o→i≠P.ci→i≠m2→H5[i]? = some o
 cs:H5[P.ci]? = some (.cells 5 ((C.set k c).flatMap LClsU.cells))
 pr:c.name=u.name∧c.super=supI (P.sup k)∧c.cells'=(P.base k).cells∧c.refs=(P.base k).refs∧c.table=(P.base k).table
 rs:RV 1 intC H3.length H5 c.refs c.ra c.rc
 tb:RV 1 intC H3.length H5 c.table c.ta c.tc
 ne:∀ p q q',c.ra=some (p,q)→c.ta≠some (p,q')
 as:H5[m2]? = some (nObj A)
 mi:MI A (P.base k).names
def Post (P:Par) (b:Nat) (H:List AObj) (D:List Bool) (Q X:Nat→Prop) (k w:Nat) (v:AVal) (h':Heap):Prop :=
 v = .tuple []∧∃ (H':List AObj) (w':Nat) (C':List LClsU) (M':List LMethU) (D':List Bool) (S':List (Option Nat)) (Z':List (Key × Int)),h'=⟨H',b,w'⟩∧LS P H' C' M' D' S' Z' Q X∧D'[k]? = some true∧(∀ i:Nat,D[i]? = some true→D'[i]? = some true)∧Upd5 P H H'∧H.length≤H'.length∧min w P.m0≤w'∧w'≤w
theorem base_bound {P:Par} {b:Nat} (hP:P.ok b) (k:Nat):0≤(P.base k).cells∧(P.base k).cells≤100000∧(P.base k).refs.length≤100000∧(P.base k).table.length≤100000∧(P.base k).names.length=(P.base k).table.length:=by
 unfold Par.base
 split
 ·exact ⟨by decide,by decide,by decide,by decide,rfl⟩
 ·exact hP.rb _
section
variable {E:Env} {P:Par} {b:Nat}
theorem mid161 (hT:Agrees E T) (hm:E.P.follows .mixedOrders=true) (hP:P.ok b) {k m2:Nat} {u:UnitU} {fr:Nat} {H3 H5:List AObj} {C:List LClsU} {M:List LMethU} {D:List Bool} {S:List (Option Nat)} {Z:List (Key × Int)} {Q X:Nat→Prop} {c:LClsU} {A:List (Nm × Int)} (h:Mid P k m2 u H3 H5 C M D S Z Q X c A) (hu:P.W[k]? = some u) (hf:P.F[k]? = some fr) (hQ:¬ Q k) (hX:∀ i,X i→i < m2) (hm2:P.lt≤m2)
  {H:List AObj} {w w5:Nat} {D0:List Bool} (hD:∀ i:Nat,D0[i]? = some true→D[i]? = some true) (hup:∀ (i:Nat) (o:AObj),H[i]? = some o→i≠P.ci→i≠P.mi→i≠P.si→i≠P.di→i≠P.mz→H3[i]? = some o∧i≠m2) (hlen:H.length≤H3.length) (hw:P.m0≤w5) (hw5:w5 < H.length) :
  CodeD E (.seq a161g (.seq a161h a161i)) ⟨[(0,.val (.ptr (some (P.K,0)))),(1,.val (.int .i64 k)),(2,.val (.slice (some (P.fi,0)) P.W.length P.fc)),(8,.val (.ptr (some (P.ci,k*5)))),(9,.val (.ptr (some (P.ui,k*4)))),(10,.val (.map (some m2)))],⟨H5,b,w5⟩⟩
   (fun e st=>∃ v h',funcEnd code161 ⟨H,b,w⟩ (e,st)=some (v,h')∧Post P b H D0 Q X k w v h'):=by
 obtain ⟨l1,l2,l3,l4,l5,l6,l7,l8,l9⟩:=hP.lts
 obtain ⟨m1,m2',m3,m4,m5⟩:=hP.ms
 have hbm:=hP.b
 have hwl:=hP.wl
 obtain ⟨n1,n2,n3,n4,n5,n6,n7,n8,n9⟩:=h.ls.ne
 have h3l:=h.ls.len
 have hkl:=aj hu
 have hxm:m2 < H3.length:=h.ls.xl m2 (.inr rfl)
 obtain ⟨s1,s2,s3,s4,s5⟩:=h.ls.same (H':=H5) hP fun i o hi hg q1 _ _ _ _=>h.fm i o hg q1 (by omega)
 obtain ⟨p1,p2,p3,p4,p5⟩:=h.pr
 obtain ⟨b1,b2,b3,b4,b5⟩:=base_bound hP k
 obtain ⟨u1,u2⟩:=hP.ub u (au hu)
 have hz5:=h.fm _ _ h.ls.zs n4.symm (by omega)
 have hms5:=h.fm _ _ h.ls.ms n1.symm (by omega)
 have hss5:=h.fm _ _ h.ls.ss n2.symm (by omega)
 have hCO:CO H5 H5 H3.length P.ci P.mz k (C.set k c) c Z:=⟨fun i o _ hg _ _=>hg,h.len,⟨_,h.cs⟩,⟨_,_,hz5⟩,by omega,by omega,h.cs,bv (by rw [h.ls.cl]; exact hkl),hz5,h.rs,h.tb,h.ne⟩
 have hfl:=(flat_get (f:=UnitU.cells) 4 (fun _=>rfl) P.W k u hu)
 obtain ⟨r1,r2,r3,r4⟩:=s5 u (au hu)
 obtain ⟨H6,ra,rc,w6,g1,g2,g3,g4⟩:=s286 (b:=b) (w:=w5) (m:=P.m0) (k:=k) s1 (by omega) s3 (by omega) hfl.2 hfl.1 r1 (r2.le h3l) ⟨by omega,by omega,by omega⟩ ⟨m1,m5,by omega⟩ (by omega) (by rw [p3]; exact b1) (by rw [p3]; omega) (by rw [p4]; omega) hCO
 have hRk:=hP.r k u fr hu hf
 generalize hc6:({ c with cells':=(cellsR u.fields c.cells' c.refs).1,refs:=(cellsR u.fields c.cells' c.refs).2,ra:=ra,rc:=rc }:LClsU)=c6 at g1
 have k1:c6.name=u.name:=by rw [← hc6]; exact p1
 have k2:c6.super=supI (P.sup k):=by rw [← hc6]; exact p2
 have k3:c6.cells'=(P.R k).cells:=by rw [← hc6,hRk]; simp only [stepC,p3,p4]
 have k4:c6.refs=(P.R k).refs:=by rw [← hc6,hRk]; simp only [stepC,p3,p4]
 have k5:c6.table=(P.base k).table:=by rw [← hc6]; exact p5
 have k6:c6.ta=c.ta:=by rw [← hc6]
 rw [p3] at g1
 have hm6:=g1.get (by omega) hms5 (by decide)
 have ha6:=g1.up m2 _ hxm h.as (by omega) (by omega)
 have hCM:CM P.lt H6 H6 c.ta P.ci P.mi m2 k ((C.set k c).set k c6) c6 M A:=⟨fun i o hg _ _ _ _=>hg,ak _,⟨_,g1.cs⟩,⟨_,hm6⟩,⟨_,_,ha6⟩,fun p q e=>by
  rcases g1.tb with ⟨_,e1,_⟩ | ⟨_,p',_,e1,_,e2⟩
  ·rw [← k6,e1] at e; cases e
  ·rw [← k6,e1] at e; cases e; exact ⟨_,e2⟩,g1.cs,g1.at',hm6,ha6,g1.tb.le h3l,.inl k6⟩
 have hK6:=g1.get (by omega) s1 (by decide)
 have hf6:=g1.get (by omega) s2 (by decide)
 have hu6:=g1.get (by omega) s3 (by decide)
 have hft:∀ q,c.ta≠some (P.fi,q):=fun q e=>by have:=(h.tb.lt e).1; omega
 obtain ⟨H7,ta,tc,A',w7,q1,q2,q3,q4,q5⟩:=l161 (b:=b) (m:=P.m0) (fo:=0) (fn:=P.W.length) (fc:=P.fc) (fr:=fr) hK6 hf6 (by simp [natV,hf]) hkl (by simp [hP.fl]; exact hkl) hft (g1.row r3 (r4.le h3l) (by decide)) ⟨by omega,by omega,by omega,by omega⟩ (by have:=g1.len; omega) ⟨by omega,m1,m2',by omega⟩ (hP.fr k u fr hu hf) hP.ml (by omega) u.meths.length 0 w6 H6 _ c6 M A (P.base k).names (by omega) h.ls.ml h.mi (by rw [k5]; exact b5) (by rw [k5]; omega) hCM (by omega)
 rw [d8] at q1 q2
 generalize hc7:({ c6 with table:=(methsT fr 0 u.meths (P.base k).names c6.table).2,ta:=ta,tc:=tc }:LClsU)=c7 at q1
 rw [k5] at q2 hc7
 have hss6:=g1.get (by omega) hss5 (by decide)
 have hss7:=q1.get hss6 (by decide) fun q e=>by have:=(h.tb.lt e).1; omega
 have hK7:=q1.get' hK6 (by decide)
 have hSl:(S.map AVal.map).length=P.W.length:=by rw [ip]; exact h.ls.sl
 have hset:(S.map AVal.map).take k ++ .map (some m2) :: (S.map AVal.map).drop (k+1)=(S.set k (some m2)).map AVal.map:=by
  rw [List.map_set,List.set_eq_take_append_cons_drop,if_pos (by rw [hSl]; exact hkl)]
 have h7l:=aj hss7
 refine CodeD.seq nofun (CodeD.run hT hm (fun k'=>rg161 k' g4) ?_)
 refine CodeD.seq nofun (CodeD.run hT hm (fun k'=>rh161 (ui:=P.ui) (uo:=k*4) k' hu6 (i7 (k:=3) hfl.2 (by decide)) q5) ?_)
 refine CodeD.run hT hm (fun k'=>ri161 k' hK7 hss7 hkl (by rw [hSl]; exact hkl) (by omega) hset) ?_
 have hH7:H3.length≤H7.length:=du g1.len q1.len
 refine ⟨.tuple [],⟨H7.set P.si (.cells 1 ((S.set k (some m2)).map AVal.map)),b,min w (min w7 P.si)⟩,?_,rfl,H7.set P.si (.cells 1 ((S.set k (some m2)).map AVal.map)),min w (min w7 P.si),C.set k c7,methsM fr 0 u.meths (P.base k).names M,D,S.set k (some m2),cellsZ u.name u.fields (P.base k).cells Z,rfl,?_,h.dk,hD,?_,?_,by omega,by omega⟩
 ·have hlt:min w7 P.si < H.length:=by omega
  simp [funcEnd,code161,resultsL,tupled,finish,Heap.size,hlt]
 ·-- the state
  have hr7:RV 1 intC P.lt H7 c7.refs c7.ra c7.rc:=by
   rw [← hc7]
   exact (g1.rs.le h3l).keep fun p q o hp hg=>q1.up p o hg (by have:=g1.rs.lt hp; omega) (by have:=g1.rs.lt hp; omega) (by have:=g1.rs.lt hp; omega) fun q' e=>g1.ne p q q' hp (k6.trans e)
  have fm7:∀ i o,H3[i]? = some o→i≠P.ci→i≠P.mi→i≠P.mz→i≠m2→H7[i]? = some o:=fun i o hg a1 a2 a3 a4=>by
   have hil:=aj hg
   exact q1.up i o (g1.up i o hil (h.fm i o hg a1 a4) a1 a3) a1 a2 a4 fun q e=>by have:=(h.tb.lt e).1; omega
  have hcs7:=q1.cs
  rw [gr,gr] at hcs7
  refine h.ls.close (H':=H7.set P.si (.cells 1 ((S.set k (some m2)).map AVal.map))) (c':=c7) (A:=A') (fr:=fr) hP h.dk hQ hu hf hX hm2 h.mo (fun i o hg a1 a2 a3 a4 a5=>?_) (by rw [br]; exact hH7) ?_ ?_ ?_ ?_ ?_ (ic hss7) ?_ ?_ ?_
  ·rw [ai (Ne.symm a3)]; exact fm7 i o hg a1 a2 a4 a5
  ·rw [ai n2.symm]; exact hcs7
  ·rw [← hc7]; exact ⟨k1,k2,k3,k4,by rw [hRk]; rfl⟩
  ·exact hr7.keep fun p q o hp hg=>by rw [ai (by have:=hr7.lt hp; omega)]; exact hg
  ·exact q1.tb.keep fun p q o hp hg=>by rw [ai (by have:=q1.tb.lt hp; omega)]; exact hg
  ·rw [ai n5.symm]; exact q1.ms
  ·rw [ai n8,]
   exact q1.up _ _ g1.zs n4.symm n7.symm (by omega) fun q e=>by have:=(h.tb.lt e).1; omega
  ·rw [ai (by omega)]; exact q1.as
  ·rw [hRk]; exact q2
 ·intro i o hg a1 a2 a3 a4 a5
  obtain ⟨b1',b2'⟩:=hup i o hg a1 a2 a3 a4 a5
  have hil:=aj b1'
  rw [ai (Ne.symm a3)]
  exact q1.up i o (g1.up i o hil (h.fm i o b1' a1 b2') a1 a5) a1 a2 b2' fun q e=>by have:=(h.tb.lt e).1; omega
 ·simp; omega
end
end Go.Abs.AbsSlot

namespace Go.Abs.AbsSlot
open Go.Abs.AbsHier Go.Abs.AbsDesc
open Go.Abs.Short
theorem OpsD.run {E:Env} {T:Nat→Option AFunc} {K:Slots→Heap→Prop} {l r:List AOper} {s s1:Slots} {h h1:Heap} (e:∀ k:Slots→Heap→Option (Slots × Heap),opsK (xCall T) l s h (k:=⟨k⟩)=k s1 h1) (hr:OpsD E T K r s1 h1):OpsD E T K (l++r) s h:=by
 refine OpsD.ops (s1:=s1) (h1:=h1) ?_ hr
 have:=e fun s h=>some (s,h)
 unfold opsK at this
 cases hx:evOps (xCall T) l s h with
 | none=>rw [hx] at this; cases this
 | some p=>rw [hx] at this; exact this
theorem set_same' {A:List AObj} {i:Nat} {x:AObj} (h:A[i]? = some x):A.set i x=A:=by
 refine eu fun q=>?_
 by_cases e:i=q
 ·subst e; rw [bv (aj h),h]
 ·rw [ai e]
section
variable {P:Par} {b:Nat} {H:List AObj} {C:List LClsU} {M:List LMethU} {D:List Bool} {S:List (Option Nat)} {Z:List (Key × Int)} {Q X:Nat→Prop}
theorem LS.ids (h:LS P H C M D S Z Q X):∀ i ∈ AVal.idsL (C.flatMap LClsU.cells),i < H.length:=by
 have one:∀ c ∈ C,∀ i ∈ AVal.idsL c.cells,i < H.length:=fun c hc i hi=>by
  obtain ⟨q,hq⟩:=dt hc
  have hql:q < P.W.length:=by rw [← h.cl]; exact aj hq
  have rv:∀ {L:List Int} {a:Option (Nat × Nat)} {e:Option Nat} {n:Nat},RV 1 intC P.lt H L a e→i ∈ (AVal.slice a n e).ids→i < H.length:=fun {L a e n} hr hm=>by
   rcases hr with ⟨_,e1,_⟩ | ⟨_,p,_,e1,_,e2⟩
   ·rw [e1] at hm; simp [AVal.ids] at hm
   ·rw [e1] at hm; simp [AVal.ids] at hm; subst hm; exact aj e2
  have hr:RV 1 intC P.lt H c.refs c.ra c.rc∧RV 1 intC P.lt H c.table c.ta c.tc:=by
   by_cases hc:D[q]? = some true∧¬ Q q
   ·obtain ⟨u,c',_,_,_,f1,_,f2,f3,_⟩:=h.fin q hc.1 hc.2
    rw [hq] at f1; cases f1
    exact ⟨f2,f3⟩
   ·have:=h.ini q _ (ag hql) (by
     by_cases hQ:Q q
     ·exact .inr hQ
     ·left
      obtain ⟨bd,hb⟩:∃ bd,D[q]? = some bd:=⟨_,ag (by rw [h.dl]; exact hql)⟩
      cases bd with
      | false=>exact hb
      | true=>exact absurd ⟨hb,hQ⟩ hc)
    rw [hq] at this; cases this
    exact ⟨RV.nil,RV.nil⟩
  have hcc:c.cells=[.str c.name,.int .i64 c.super,.int .i64 c.cells',.slice c.ra c.refs.length c.rc,.slice c.ta c.table.length c.tc]:=rfl
  rw [hcc] at hi
  simp only [AVal.idsL,cz] at hi
  rcases bg.1 hi with hi | hi
  ·simp [AVal.ids] at hi
  rcases bg.1 hi with hi | hi
  ·simp [AVal.ids] at hi
  rcases bg.1 hi with hi | hi
  ·simp [AVal.ids] at hi
  rcases bg.1 hi with hi | hi
  ·exact rv hr.1 hi
  ·exact rv hr.2 hi
 have all:∀ L:List LClsU,(∀ c ∈ L,c ∈ C)→∀ i ∈ AVal.idsL (L.flatMap LClsU.cells),i < H.length:=by
  intro L
  induction L with
  | nil=>intro _ i hi; simp [AVal.idsL] at hi
  | cons c L ih =>
   intro hL i hi
   rw [bu,lk] at hi
   rcases bg.1 hi with hi | hi
   ·exact one c (hL c (a8 ..)) i hi
   ·exact ih (fun c hc=>hL c (bh _ hc)) i hi
 exact all C fun _ h=>h
def MidPost (P:Par) (b k m2:Nat) (u:UnitU) (G:List AObj) (D1:List Bool) (Q X:Nat→Prop) (wG:Nat) (st:St):Prop :=
 ∃ (H3 H5:List AObj) (C:List LClsU) (M:List LMethU) (D:List Bool) (S:List (Option Nat)) (Z:List (Key × Int)) (c:LClsU) (A:List (Nm × Int)) (w5:Nat),
  st=⟨[(0,.val (.ptr (some (P.K,0)))),(1,.val (.int .i64 k)),(2,.val (.slice (some (P.fi,0)) P.W.length P.fc)),(8,.val (.ptr (some (P.ci,k*5)))),(9,.val (.ptr (some (P.ui,k*4)))),(10,.val (.map (some m2)))],⟨H5,b,w5⟩⟩ ∧
  Mid P k m2 u H3 H5 C M D S Z Q X c A∧(∀ i:Nat,D1[i]? = some true→D[i]? = some true)∧Upd5 P G H3∧G.length≤H3.length∧P.m0≤w5∧w5≤wG
theorem sup161 {E:Env} (hT:Agrees E T) (hm:E.P.follows .mixedOrders=true) (hP:P.ok b) {k j m2 w:Nat} {u:UnitU} {G:List AObj} (hj:P.sup k=some j) (hjn:j < P.W.length) (hQj:¬ (Q j∨j=k)) (hu:P.W[k]? = some u) (hm2:P.lt≤m2) (hmo:G[m2]? = some (nObj [])) (hk:D[k]? = some true) (hw:P.m0≤w)
  (h:LS P G C M D S Z (fun i=>Q i∨i=k) (fun i=>X i∨i=m2))
  (ih:∀ w,CallD E 161 [.ptr (some (P.K,0)),.int .i64 j,.slice (some (P.fi,0)) P.W.length P.fc,.slice (some (P.di,0)) P.W.length P.dc] ⟨G,b,w⟩ (Post P b G D (fun i=>Q i∨i=k) (fun i=>X i∨i=m2) j w)) :
  CodeD E s161 ⟨[(0,.val (.ptr (some (P.K,0)))),(1,.val (.int .i64 k)),(2,.val (.slice (some (P.fi,0)) P.W.length P.fc)),(3,.val (.slice (some (P.di,0)) P.W.length P.dc)),(8,.val (.ptr (some (P.ci,k*5)))),(9,.val (.ptr (some (P.ui,k*4)))),(10,.val (.map (some m2))),(47,.val (.bool true))],⟨G,b,w⟩⟩
   (fun e st=>e = .normal∧MidPost P b k m2 u G D Q X w st):=by
 obtain ⟨l1,l2,l3,l4,l5,l6,l7,l8,l9⟩:=hP.lts
 obtain ⟨m1,m2',m3,m4,m5⟩:=hP.ms
 have hbm:=hP.b
 have hkl:=aj hu
 have hc0:=h.ini k u hu (.inr (.inr rfl))
 have hx0:(C.flatMap LClsU.cells)[k*5+1]? = some (.int .i64 j):=by
  rw [flat_at ei hc0 (by decide)]; simp [LClsU.cells,Par.init,hj,supI]
 have hcs:=h.cs
 refine CodeD.seq nofun (CodeD.after (CodeD.region hT hm ?_))
 refine OpsD.run (l:=[v 48 0,v 49 8,o 50 (.nilcheck (t 49)),o 51 (.faddr (t 50) 1),o 52 (.load none (t 51)),v 53 2,v 54 3]) (r:=[o 55 (.callg 161 [t 48,t 52,t 53,t 54])])
  (s1:=[(54,.val (.slice (some (P.di,0)) P.W.length P.dc)),(53,.val (.slice (some (P.fi,0)) P.W.length P.fc)),(52,.val (.int .i64 j)),(51,.val (.ptr (some (P.ci,k*5+1)))),(50,.val (.ptr (some (P.ci,k*5)))),(49,.val (.ptr (some (P.ci,k*5)))),(48,.val (.ptr (some (P.K,0)))),(0,.val (.ptr (some (P.K,0)))),(1,.val (.int .i64 k)),(2,.val (.slice (some (P.fi,0)) P.W.length P.fc)),(3,.val (.slice (some (P.di,0)) P.W.length P.dc)),(8,.val (.ptr (some (P.ci,k*5)))),(9,.val (.ptr (some (P.ui,k*4)))),(10,.val (.map (some m2))),(47,.val (.bool true))]) (h1:=⟨G,b,w⟩) (fun k'=>by simp (disch:=omega) [-getElem?_pos,-getElem?_neg,-List.all_eq_true,gz,gs,nltT,nltF,iltT,iltF,ileT,nleT,dh,hcs,hx0]) ?_
 refine OpsD.call (g:=161) (xs:=[t 48,t 52,t 53,t 54]) rfl rfl rfl (ih w) fun vv hh hR=>OpsD.done ?_
 obtain ⟨rfl,H3,w3,C3,M3,D3,S3,Z3,rfl,L3,d1,d2,d3,d4,d5,d6⟩:=hR
 have hkeep:∀ vv:AVal,keepK [0,1,2,8,9,10] (setSlot (some 55) (.val vv) [(54,.val (.slice (some (P.di,0)) P.W.length P.dc)),(53,.val (.slice (some (P.fi,0)) P.W.length P.fc)),(52,.val (.int .i64 j)),(51,.val (.ptr (some (P.ci,k*5+1)))),(50,.val (.ptr (some (P.ci,k*5)))),(49,.val (.ptr (some (P.ci,k*5)))),(48,.val (.ptr (some (P.K,0)))),(0,.val (.ptr (some (P.K,0)))),(1,.val (.int .i64 k)),(2,.val (.slice (some (P.fi,0)) P.W.length P.fc)),(3,.val (.slice (some (P.di,0)) P.W.length P.dc)),(8,.val (.ptr (some (P.ci,k*5)))),(9,.val (.ptr (some (P.ui,k*4)))),(10,.val (.map (some m2))),(47,.val (.bool true))]) =
  [(0,.val (.ptr (some (P.K,0)))),(1,.val (.int .i64 k)),(2,.val (.slice (some (P.fi,0)) P.W.length P.fc)),(8,.val (.ptr (some (P.ci,k*5)))),(9,.val (.ptr (some (P.ui,k*4)))),(10,.val (.map (some m2)))]:=fun vv=>by simp
 simp only []
 rw [hkeep]
 clear hkeep
 obtain ⟨n1,n2,n3,n4,n5,n6,n7,n8,n9⟩:=L3.ne
 have l3n:=L3.len
 obtain ⟨uj,cj,qj,Aj,f1,f2,f3,f4,f5,f6,f7,f8,f9,f10⟩:=L3.fin j d1 hQj
 obtain ⟨f31,f32,f33,f34,f35⟩:=f3
 obtain ⟨rb1,rb2,rb3,rb4,rb5⟩:=hP.rb j
 have hk3:=d2 k hk
 have hck:=L3.ini k u hu (.inr (.inr rfl))
 have hX1:(C3.flatMap LClsU.cells)[k*5+1]? = some (.int .i64 j):=by
  rw [flat_at ei hck (by decide)]; simp [LClsU.cells,Par.init,hj,supI]
 have hXl:(C3.flatMap LClsU.cells).length=C3.length*5:=i8 _ 5 ei C3
 have hfj:=flat_get (f:=LClsU.cells) 5 ei C3 j cj f2
 have hm3:=d3 m2 _ hmo (by omega) (by omega) (by omega) (by omega) (by omega)
 have hm3l:=aj hm3
 have hC3l:C3.length=P.W.length:=L3.cl
 let c1:LClsU:={ P.init k u with cells':=cj.cells' }
 let c2:LClsU:={ c1 with refs:=cj.refs,ra:=clA H3.length cj.refs,rc:=clC cj.refs }
 let c3:LClsU:={ c2 with table:=cj.table,ta:=clA (H3.length+(clR cj.refs).length) cj.table,tc:=clC cj.table }
 have e1:(C3.set k c1)[k]? = some c1:=bv (by omega)
 have e2:((C3.set k c1).set k c2)[k]? = some c2:=bv (by rw [br]; omega)
 have e3:(((C3.set k c1).set k c2).set k c3)[k]? = some c3:=bv (by rw [br,br]; omega)
 have t1:(C3.flatMap LClsU.cells).take (k*5+2) ++ .int .i64 cj.cells' :: (C3.flatMap LClsU.cells).drop (k*5+2+1)=(C3.set k c1).flatMap LClsU.cells:=by
  have:=iz (v:=.int .i64 cj.cells') (y:=c1) ei hck (k:=2) (by decide) rfl
  simpa only [splice,ba,eh,az,co,bt] using this
 have t2:((C3.set k c1).flatMap LClsU.cells).take (k*5+3)++clV H3.length cj.refs :: ((C3.set k c1).flatMap LClsU.cells).drop (k*5+3+1)=((C3.set k c1).set k c2).flatMap LClsU.cells:=by
  have:=iz (v:=clV H3.length cj.refs) (y:=c2) ei e1 (k:=3) (by decide) (by first | (rw [clV_eq]; done) | (rw [clV_eq]; rfl))
  simpa only [splice,ba,eh,az,co,bt] using this
 have t3:(((C3.set k c1).set k c2).flatMap LClsU.cells).take (k*5+4)++clV (H3.length+(clR cj.refs).length) cj.table :: (((C3.set k c1).set k c2).flatMap LClsU.cells).drop (k*5+4+1)=(((C3.set k c1).set k c2).set k c3).flatMap LClsU.cells:=by
  have:=iz (v:=clV (H3.length+(clR cj.refs).length) cj.table) (y:=c3) ei e2 (k:=4) (by decide) (by first | (rw [clV_eq]; done) | (rw [clV_eq]; rfl))
  simpa only [splice,ba,eh,az,co,bt] using this
 have hl1:((C3.set k c1).flatMap LClsU.cells).length=(C3.flatMap LClsU.cells).length:=by rw [i8 _ 5 ei,i8 _ 5 ei,br]
 have hl2:(((C3.set k c1).set k c2).flatMap LClsU.cells).length=(C3.flatMap LClsU.cells).length:=by rw [i8 _ 5 ei,i8 _ 5 ei,br,br]
 have hcl3:=aj L3.cs
 refine CodeD.seq nofun (CodeD.run hT hm (fun k'=>ub161 k' L3.k L3.cs hX1 hjn hfj.2 hfj.1) ?_)
 refine CodeD.seq nofun (CodeD.run hT hm (fun k'=>uc161 k' L3.cs (by omega) f4 f5 (by rw [f34]; omega) (by rw [f35]; omega) (by omega) (by omega) t1 t2 t3 hl1 hl2 L3.ids) ?_)
 simp only []
 generalize hH4:(H3++clR cj.refs++clR cj.table).set P.ci (.cells 5 ((((C3.set k c1).set k c2).set k c3).flatMap LClsU.cells))=H4
 have g4:∀ (i:Nat) o,H3[i]? = some o→i≠P.ci→H4[i]? = some o:=fun i o hg hne=>by
  rw [← hH4,ai (Ne.symm hne),ba,ah (aj hg)]; exact hg
 have hH4l:H3.length≤H4.length:=by rw [← hH4]; simp
 have hc4:H4[P.ci]? = some (.cells 5 ((((C3.set k c1).set k c2).set k c3).flatMap LClsU.cells)):=by
  rw [← hH4]; exact bv (by simp; omega)
 have hK4:=g4 _ _ L3.k (by intro e; have:=L3.k; rw [e,L3.cs] at this; cases this)
 have hX4:((((C3.set k c1).set k c2).set k c3).flatMap LClsU.cells)[k*5+1]? = some (.int .i64 j):=by
  rw [flat_at ei e3 (by decide)]; simp [LClsU.cells,Par.init,hj,supI,c3,c2,c1]
 have hs4:=g4 _ _ L3.ss n2.symm
 have hSj:(S3.map AVal.map)[j]? = some (.map (some qj)):=by rw [cq,f6]; rfl
 have hq4:=g4 _ _ f8 (by omega)
 refine CodeD.seq nofun (CodeD.run hT hm (fun k'=>ud161 k' hK4 hc4 hX4 hjn hs4 hSj hq4) ?_)
 simp only []
 have hm4:=g4 _ _ hm3 (by omega)
 have hqne:qj≠m2:=fun e=>f10 (.inr e)
 generalize hO:H4++[AObj.mapIter (some qj) Aj.length [] Aj.length]=O
 have hit:O[H4.length]? = some (.mapIter (some qj) Aj.length [] Aj.length):=by rw [← hO]; simp
 have hO4:∀ (i:Nat) o,H4[i]? = some o→O[i]? = some o:=fun i o hg=>by rw [← hO,ah (aj hg)]; exact hg
 have hm4l:=aj hm4
 have hq4l:=aj hq4
 have hOl:O.length=H4.length+1:=by rw [← hO]; simp
 have hcp:cpH O H4.length m2 (.mapIter (some qj) Aj.length [] Aj.length) []=O:=by
  unfold cpH
  rw [set_same' hit,set_same' (hO4 _ _ hm4)]
 have hwp:=cp_loop (O:=O) (b:=b) (w:=min w3 P.ci) (it:=H4.length) (m1:=qj) (m2:=m2) (A:=Aj) (x0:=.ptr (some (P.K,0))) (x1:=.int .i64 k) (x2:=.slice (some (P.fi,0)) P.W.length P.fc) (x8:=.ptr (some (P.ci,k*5))) (x9:=.ptr (some (P.ui,k*4))) f9.nd (hO4 _ _ hq4) (by omega) (by omega) (by omega) (by omega) hqne (by omega) (by omega)
 rw [hcp] at hwp
 refine CodeD.after (CodeD.block ((CodeD.of_wp hT hm hwp).mono fun e st hq _=>?_))
 obtain ⟨rfl,B,w5,hB,z1,z2,rfl⟩:=hq
 simp only [blkE_e,if_true]
 refine ⟨trivial,H3,cpH O H4.length m2 .dead B,C3,M3,D3,S3,Z3,c3,B,w5,by simp,?_,d2,d3,d4,by omega,by omega⟩
 have gO:∀ (i:Nat) o,H4[i]? = some o→i≠m2→(cpH O H4.length m2 .dead B)[i]? = some o:=fun i o hg hne=>by
  have:=aj hg
  unfold cpH
  rw [ai (Ne.symm hne),ai (by omega)]
  exact hO4 i o hg
 have rv:∀ {L:List Int} {a:Option (Nat × Nat)} {e:Option Nat},RV 1 intC H3.length (H3++clR cj.refs++clR cj.table) L a e→RV 1 intC H3.length (cpH O H4.length m2 .dead B) L a e:=fun {L a e} hr=>hr.keep fun p q o hp hg=>by
  have hpl:=(hr.lt hp).1
  refine gO _ _ ?_ (by omega)
  rw [← hH4,ai (by omega)]; exact hg
 refine ⟨L3,hk3,hm3,by unfold cpH; rw [br,br]; omega,fun i o hg a1 a2=>gO i o (g4 i o hg a1) a2,?_,?_,?_,?_,?_,?_,?_⟩
 ·have:=gO _ _ hc4 (by omega)
  rw [gr,gr] at this
  exact this
 ·refine ⟨rfl,rfl,?_,?_,?_⟩
  ·show cj.cells'=_; rw [f33]; unfold Par.base; rw [hj]
  ·show cj.refs=_; rw [f34]; unfold Par.base; rw [hj]
  ·show cj.table=_; rw [f35]; unfold Par.base; rw [hj]
 ·have:=cl_rv (O:=H3) cj.refs (ak _) (clR cj.table)
  rw [clO_eq] at this
  exact rv this
 ·have:=cl_rv (O:=H3++clR cj.refs) cj.table (lo:=H3.length) (by simp) []
  rw [clO_eq,cz,bc] at this
  exact rv this
 ·intro p q q' hp hq
  have hp:clA H3.length cj.refs=some (p,q):=hp
  have hq:clA (H3.length+(clR cj.refs).length) cj.table=some (p,q'):=hq
  unfold clA at hp hq
  split at hp
  ·cases hp
  ·rename_i hne
   split at hq
   ·cases hq
   ·cases hp
    unfold clR at hq
    rw [if_neg hne] at hq
    simp at hq
 ·unfold cpH
  rw [bv (by rw [br]; omega)]
 ·have hb:P.base k=P.R j:=by unfold Par.base; rw [hj]
  rw [hb]
  exact f9.perm hB
end
end Go.Abs.AbsSlot
