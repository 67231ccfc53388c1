/-
  Texts joined.
-/
import Derived.Test.YtfjiakbhdjcceaaGreatQ0
import Derived.Test.YtfjiakbhdjcceaaGreatQ2
import Derived.MapKept
import Derived.DeepKeys
import Derived.OrdersIn
import Derived.LoopNIn
import Derived.RangeFuncRecord
set_option linter.unusedVariables false
set_option linter.unusedSimpArgs false
set_option maxRecDepth 100000
namespace Go.Abs
section
variable {E:Env} {lo:Nat} {ν:Fr} {μ:MM} {s:Slots} {h:Heap} {a:Act} {w:World}
def FitV (n:Option Nat) (x:AVal):Prop:=match n with
 | some _=>∃ cs,x = .agg cs
 | none=>x.isOne=true
theorem wx {cs:List AVal} {o:Nat} {n:Option Nat} {r:AVal} (h1:∀ x ∈ cs,x.isOne=true) (h:Abs.part cs o n=some r):FitV n r:=by
 cases n with
 | none=>simp only [Abs.part] at h; exact h1 _ (br h)
 | some k =>
  simp only [Abs.part] at h;split at h
  ·cases h; exact ⟨_,rfl⟩
  ·cases h
theorem kh:∀ {ks:List CK} {aZ:List AVal},areKeys ks aZ=true→aZ.length=ks.length
 | [],[],_=>rfl
 | _ :: ks,_ :: aZ,h=>by simp only [areKeys,bc] at h;simp [kh h.2]
 | [],_ :: _,h=>by simp [areKeys] at h
 | _ :: _,[],h=>by simp [areKeys] at h
theorem nv:∀ {d e:List CK} {aZ:List AVal},areKeys (d++e) aZ=true→areKeys d (aZ.take d.length)=true∧areKeys e (aZ.drop d.length)=true
 | [],e,aZ,h=>by simpa [areKeys] using h
 | c :: d,e,[],h=>by simp [areKeys] at h
 | c :: d,e,a :: aZ,h=>by simp only [fh,areKeys,bc] at h;obtain ⟨h1,h2⟩:=nv h.2;simp only [cq,List.take_succ_cons,List.drop_succ_cons,areKeys,bc];exact ⟨⟨h.1,h1⟩,h2⟩
theorem tx:∀ (k:Nat) {aZ bs:List AVal} {r:Bool},k≤aZ.length→aZ.length=bs.length→akeyL aZ bs=some r→∃ j,akeyL (aZ.take k) (bs.take k)=some j∧(j=true→akeyL (aZ.drop k) (bs.drop k)=some r)∧(j=false→r=false)
 | 0,aZ,bs,r,_,_,h=>⟨true,by simp [akeyL],fun _=>by simpa using h,fun e=>by cases e⟩
 | k+1,[],bs,r,p,_,_=>by simp at p
 | k+1,a :: aZ,[],r,_,y,_=>by simp at y
 | k+1,a :: aZ,b :: bs,r,p,y,h=>by
  simp only [akeyL] at h;cases d:akey1 a b with
  | none=>rw [d] at h; cases h
  | some q =>
   rw [d] at h;cases q with
   | false =>
    cases h;exact ⟨false,by simp [akeyL,d],(fun e=>by cases e),(fun _=>rfl)⟩
   | true =>
    obtain ⟨j,h1,h2,A⟩:=tx k (by simpa using p) (by simpa using y) h;exact ⟨j,by simp [akeyL,d,h1],h2,A⟩
def EqOK (E:Env) (d:Nat) (t:TypeId) (l:List CK):Prop :=
 ∀ (μ:MM) (w:World) (n:Option Nat) (x y:AVal) (u v:Value) (aZ bs:List AVal) (r:Bool),partT E.P t=some n→FitV n x→FitV n y→VRel E μ x u→VRel E μ y v→x.cells? = some aZ→y.cells? = some bs →
  aZ.length=bs.length→areKeys l aZ=true→akeyL aZ bs=some r→(Op.equalIn d t u v).run E.P w = .ok r w
theorem eq_one {d:Nat} {t:TypeId} {c:CK} {l:List CK} (K:l=[c]) (j:(c = .b∧E.P.underlying t=some .bool)∨(c = .i∧∃ k,E.P.underlying t=some (.int k))∨(c = .s∧E.P.underlying t=some .string)):EqOK E (d+1) t l:=by
 intro μ w n x y u v aZ bs r B L N hx p O Q J C hr;subst K
 have D:n=none:=by unfold partT at B;rcases j with ⟨_,j⟩ | ⟨_,k,j⟩ | ⟨_,j⟩ <;> (rw [j] at B; simp at B; simp [← B])
 subst D
 have one:∀ {z:AVal} {G:List AVal},FitV none z→z.cells? = some G→G=[z]:=by intro z G H hc;have H:z.isOne=true:=H;cases z <;> simp [AVal.cells?,AVal.isOne] at hc H <;> exact hc.symm
 have U:=one L O;have W:=one N Q;subst U; subst W;simp only [areKeys,Bool.and_true] at C;simp only [akeyL] at hr
 have e:akey1 x y=some r:=by
  cases A:akey1 x y with
  | none=>rw [A] at hr; cases hr
  | some q =>
   rw [A] at hr;cases q with
   | false=>exact hr
   | true=>exact hr
 clear hr;rcases j with ⟨rfl,j⟩ | ⟨rfl,k,j⟩ | ⟨rfl,j⟩
 ·cases x <;> simp only [CK.is,cg] at C
  cases y <;> simp only [akey1,reduceCtorEq] at e
  simp only [VRel] at hx p;subst hx; subst p;injection e with e;rw [run_equalIn_bool' w d t _ _ j,← e];congr 1
 ·cases x <;> simp only [CK.is,cg] at C
  cases y <;> simp only [akey1,reduceCtorEq] at e
  simp only [VRel] at hx p;subst hx; subst p;split at e
  ·rename_i I;subst I;injection e with e;rw [run_equalIn_int w d t _ _ _ _ j,← e];congr 1
  ·cases e
 ·cases x <;> simp only [CK.is,cg] at C
  cases y <;> simp only [akey1,reduceCtorEq] at e
  simp only [VRel] at hx p;subst hx; subst p;injection e with e;rw [run_equalIn_string w d t _ _ j,← e];congr 1;rw [wd]; simp [ByteArray.toList_eq]
theorem si {cs:List AVal} {o k:Nat} {n:Option Nat} {r:AVal} (h1:∀ x ∈ cs,x.isOne=true) (e:n=some k∨(n=none∧k=1)) (h:Abs.part cs o n=some r):r.cells? = some ((cs.drop o).take k):=by
 rcases e with rfl | ⟨rfl,rfl⟩
 ·simp only [Abs.part] at h;split at h
  ·cases h; rfl
  ·cases h
 ·simp only [Abs.part] at h;have h2:=h1 _ (br h)
  have j:(cs.drop o).take 1=[r]:=by have d:=ah h;rw [vh d,List.take_succ_cons];rw [ai d] at h;simp [ce h]
  rw [j];cases r <;> simp [AVal.cells?,AVal.isOne] at h2 ⊢
theorem wy {cs:List AVal} {o k:Nat} {n:Option Nat} (d:n=some k∨(n=none∧k=1)) (ho:o+k≤cs.length):∃ r,Abs.part cs o n=some r:=by
 rcases d with rfl | ⟨rfl,rfl⟩
 ·exact ⟨_,by simp only [Abs.part]; rw [if_pos ho]⟩
 ·exact ⟨_,by simp only [Abs.part]; exact ai (by omega)⟩
theorem yh {P:Program} {n:Nat} {t:TypeId} {l:List CK} (h:ckOf P n t=some l) (hs:sizeT P t=some l.length):∃ m,partT P t=some m∧(m=some l.length∨(m=none∧l.length=1)):=by
 cases n with
 | zero=>simp [ckOf] at h
 | succ n =>
  unfold partT;simp only [ckOf] at h;split at h <;> (try cases h)
  ·rename_i d; rw [d]; exact ⟨none,rfl,.inr ⟨rfl,rfl⟩⟩
  ·rename_i d; rw [d]; exact ⟨none,rfl,.inr ⟨rfl,rfl⟩⟩
  ·rename_i d; rw [d]; exact ⟨none,rfl,.inr ⟨rfl,rfl⟩⟩
  ·rename_i d; rw [d]; exact ⟨some l.length,by simp [hs],.inl rfl⟩
  ·rename_i d; rw [d]; exact ⟨some l.length,by simp [hs],.inl rfl⟩
theorem eq_fields {d:Nat} {g:TypeId→Option (List CK)} (O:∀ t l,g t=some l→EqOK E d t l) (C:∀ t l,g t=some l→sizeT E.P t=some l.length→∃ m,partT E.P t=some m∧(m=some l.length∨(m=none∧l.length=1)))
  {A B:List AVal} {xs Q:Array Value} (U:VRels E μ A xs.toList) (W:VRels E μ B Q.toList) (j:∀ x ∈ A,x.isOne=true) (p:∀ x ∈ B,x.isOne=true) (D:A.length=B.length) :
  ∀ (fs:List Field) (off:Nat) (l:List CK) (r:Bool),ckFields g E.P off fs=some l→areKeys l (A.drop off)=true→akeyL (A.drop off) (B.drop off)=some r→(Op.eqFields d xs Q fs).run E.P w = .ok r w
 | [],off,l,r,e,J,hr=>by
  simp only [ckFields] at e; cases e;have h1:=kh J;have e1:A.drop off=[]:=bn (by simpa using h1);rw [e1] at hr;cases hb:B.drop off with
  | nil=>rw [hb] at hr; simp [akeyL] at hr; subst hr; simp [Op.eqFields]
  | cons b bs=>rw [hb] at hr; simp [akeyL] at hr
 | f :: fs,off,l,r,e,J,hr=>by
  simp only [ckFields] at e;split at e;case h_2=>cases e
  rename_i G H;split at e;case isFalse=>cases e
  rename_i hh;obtain ⟨ho,hn,hs,h0⟩:=hh;rw [ae] at e;obtain ⟨l2,K,rfl⟩:=e;obtain ⟨k1,X⟩:=nv J;have L:=kh J;simp only [gh,au] at L;obtain ⟨m,hm,q⟩:=C f.type G H hs;have I:off+G.length≤A.length:=by omega
  obtain ⟨x,hx⟩:=wy (cs:=A) (o:=off) q I;obtain ⟨y,N⟩:=wy (cs:=B) (o:=off) q (by omega);obtain ⟨u,p1,q1⟩:=qb w hm U j hx;obtain ⟨v,p2,q2⟩:=qb w hm W p N;obtain ⟨r1,s1,s2,s3⟩:=tx G.length (by simp; omega) (by simp; omega) hr;have he:=O f.type G H μ w m x y u v _ _ r1 hm (wx j hx) (wx p N) q1 q2 (si j q hx) (si p q N) (by simp; omega) k1 s1;rw [← ho] at p1 p2;simp only [Op.eqFields,hn,ne_eq,not_false_eq_true,if_true,Sem.run_bind,p1,p2,he,Result.andThen_ok];cases r1 with
  | false=>rw [s3 rfl]; simp
  | true =>
   have:=eq_fields O C U W j p D fs (off+G.length) l2 r K (by rw [jp] at X; exact X) (by have:=s2 rfl; rwa [jp,jp] at this);simpa using this
theorem eq_items {d:Nat} {e:TypeId} {le:List CK} (L:EqOK E d e le) {m:Option Nat} (hm:partT E.P e=some m) (p:m=some le.length∨(m=none∧le.length=1)) (h0:0 < le.length) (hc:E.P.cellsOf e=le.length)
  {A B:List AVal} {xs N:Array Value} (O:VRels E μ A xs.toList) (Q:VRels E μ B N.toList) (q:∀ x ∈ A,x.isOne=true) (C:∀ x ∈ B,x.isOne=true) (D:A.length=B.length) :
  ∀ (k j:Nat) (r:Bool),areKeys (List.replicate k le).flatten (A.drop (j*le.length))=true→akeyL (A.drop (j*le.length)) (B.drop (j*le.length))=some r →
   (Op.eqItems d e (E.P.cellsOf e) xs N (List.range' j k)).run E.P w = .ok r w
 | 0,j,r,G,hr=>by
  have h1:=kh G;have I:A.drop (j*le.length)=[]:=bn (by simpa using h1);rw [I] at hr;cases hb:B.drop (j*le.length) with
  | nil=>rw [hb] at hr; simp [akeyL] at hr; subst hr; simp [Op.eqItems]
  | cons b bs=>rw [hb] at hr; simp [akeyL] at hr
 | k+1,j,r,G,hr=>by
  rw [vi,ou] at G;obtain ⟨X,U⟩:=nv G;have J:=kh G;simp only [gh,au] at J;have H:j*le.length+le.length≤A.length:=by omega
  obtain ⟨x,hx⟩:=wy (cs:=A) (o:=j*le.length) p H;obtain ⟨y,K⟩:=wy (cs:=B) (o:=j*le.length) p (by omega);obtain ⟨u,p1,q1⟩:=qb w hm O q hx;obtain ⟨v,p2,q2⟩:=qb w hm Q C K;obtain ⟨W,s1,s2,s3⟩:=tx le.length (by simp; omega) (by simp; omega) hr;have hq:=L μ w m x y u v _ _ W hm (wx q hx) (wx C K) q1 q2 (si q p hx) (si C p K) (by simp; omega) X s1;simp only [List.range'_succ,Op.eqItems,hc,Sem.run_bind,p1,p2,hq,Result.andThen_ok];cases W with
  | false=>rw [s3 rfl]; simp
  | true =>
   have I:j*le.length+le.length=(j+1)*le.length:=by rw [fm,Nat.one_mul]
   have:=eq_items L hm p h0 hc O Q q C D k (j+1) r (by rw [jp,I] at U; exact U) (by have:=s2 rfl; rwa [jp,jp,I] at this);rw [hc] at this;simpa using this
theorem eq_ck:∀ (n:Nat) (t:TypeId) (l:List CK),ckOf E.P n t=some l→∀ d,EqOK E (d+n) t l
 | 0,t,l,h,d=>by simp [ckOf] at h
 | n+1,t,l,h,d=>by
  have h0:=h;simp only [ckOf] at h;split at h <;> (try cases h)
  ·rename_i j; exact eq_one rfl (.inl ⟨rfl,j⟩)
  ·rename_i j; exact eq_one rfl (.inr (.inl ⟨rfl,_,j⟩))
  ·rename_i j; exact eq_one rfl (.inr (.inr ⟨rfl,j⟩))
  ·rename_i fs j;split at h
   ·cases h
   rename_i Q;intro μ w m x y u v aZ bs r hm U W hx I J K p X hr
   have C:∃ k,m=some k:=by unfold partT at hm;rw [j] at hm;simp only [ae] at hm;obtain ⟨k,_,rfl⟩:=hm;exact ⟨k,rfl⟩
   obtain ⟨k,rfl⟩:=C;obtain ⟨A,rfl⟩:=U;obtain ⟨B,rfl⟩:=W;simp only [AVal.cells?] at J K; cases J; cases K;simp only [VRel] at hx I;obtain ⟨xs,rfl,hA,D⟩:=hx;obtain ⟨ys,rfl,hB,G⟩:=I;have L:E.P.fieldsOf t=fs:=by simp [Program.fieldsOf,j]
   have:=eq_fields (d:=d+n) (w:=w) (g:=ckOf E.P n) (fun t l h=>eq_ck n t l h d) (fun t l h hs=>yh h hs) hA hB D G p fs.toList 0 l r h (by simpa using X) (by simpa using hr);rw [show d+(n+1)=(d+n)+1 from rfl,run_equalIn_struct w (d+n) t xs ys (by rw [L]; exact j) (by simpa using Q),L];exact this
  ·rename_i k e j;split at h;case h_2=>cases h
   rename_i le N;split at h;case isFalse=>cases h
   rename_i hs;cases h;intro μ w m x y u v aZ bs r hm U W hx I J K p X hr
   have C:∃ k,m=some k:=by unfold partT at hm;rw [j] at hm;simp only [ae] at hm;obtain ⟨k,_,rfl⟩:=hm;exact ⟨k,rfl⟩
   obtain ⟨q,rfl⟩:=C;obtain ⟨A,rfl⟩:=U;obtain ⟨B,rfl⟩:=W;simp only [AVal.cells?] at J K; cases J; cases K;simp only [VRel] at hx I;obtain ⟨xs,rfl,hA,D⟩:=hx;obtain ⟨ys,rfl,hB,G⟩:=I;obtain ⟨m',a0,a6⟩:=yh N hs.1
   have H:∃ i,E.P.info? e=some i∧i.size=le.length:=by have:=hs.1;unfold sizeT at this;rw [ae] at this;exact this
   obtain ⟨i,hi,O⟩:=H;have hc:E.P.cellsOf e=le.length:=by simp [Program.cellsOf,hi,O]
   have:=eq_items (w:=w) (eq_ck n e le N d) a0 a6 hs.2 hc hA hB D G p k 0 r (by simpa using X) (by simpa using hr);rw [show d+(n+1)=(d+n)+1 from rfl,run_equalIn_array w (d+n) xs ys j hi,List.range_eq_range'];exact this
theorem key_ck {P:Program} {t:TypeId} {e:KeyT} (h:keyT P t=some e):(∃ c,e = .one c∧ckOf P 2 t=some [c]∧partT P t=some none)∨(∃ l m,e = .agg l∧ckOf P 2 t=some l∧(partT P t=some (some m)∨partT P t=none)):=by
 unfold keyT at h;split at h
 ·cases h
 split at h <;> (try cases h)
 ·rename_i d; exact .inl ⟨.b,rfl,by simp [ckOf,d],by simp [partT,d]⟩
 ·rename_i d; exact .inl ⟨.i,rfl,by simp [ckOf,d],by simp [partT,d]⟩
 ·rename_i d; exact .inl ⟨.s,rfl,by simp [ckOf,d],by simp [partT,d]⟩
 ·rename_i d;rw [ae] at h;obtain ⟨l,j,rfl⟩:=h;cases hs:sizeT P t with
  | none=>exact .inr ⟨l,0,rfl,j,.inr (by simp [partT,d,hs])⟩
  | some m=>exact .inr ⟨l,m,rfl,j,.inl (by simp [partT,d,hs])⟩
theorem key_size {P:Program} {t:TypeId} {d:KeyT} (h:keyT P t=some d):sizeT P t≠none:=by
 unfold keyT at h;split at h
 ·cases h
 ·assumption
theorem key_eq {t:TypeId} {D:KeyT} {x y:AVal} {u v:Value} {r:Bool} (q:keyT E.P t=some D) (hx:VRel E μ x u) (G:VRel E μ y v) (j:isKey D x=true) (hr:akey x y=some r) (w:World) :
  (Op.equal t u v).run E.P w = .ok r w:=by
 rcases key_ck q with ⟨c,rfl,hc,d⟩ | ⟨l,m,rfl,hc,d⟩
 ·have A:=eq_ck 2 t _ hc 9998;have h1:x.isOne=true∧x.cells? = some [x]:=by cases x <;> cases c <;> simp [isKey,CK.is] at j <;> simp [AVal.isOne,AVal.cells?]
  have h2:akey1 x y=some r:=by cases x <;> first | exact hr | (simp [AVal.isOne] at h1)
  have H:y.isOne=true∧y.cells? = some [y]:=by cases x <;> cases y <;> simp [akey1] at h2 <;> simp [AVal.isOne,AVal.cells?]
  refine A μ w none x y u v [x] [y] r d h1.1 H.1 hx G h1.2 H.2 rfl (by simpa [areKeys,isKey] using j) ?_;simp only [akeyL,h2];cases r <;> rfl
 ·have A:=eq_ck 2 t _ hc 9998
  have B:partT E.P t=some (some m):=by
   rcases d with d | d
   ·exact d
   ·exfalso
    have:∃ ty,E.P.underlying t=some ty:=by
     cases I:E.P.underlying t with
     | none=>simp [keyT,I] at q
     | some ty=>exact ⟨ty,rfl⟩
    obtain ⟨ty,C⟩:=this;unfold partT at d;rw [C] at d;split at d
    ·rw [Option.map_eq_none_iff] at d; exact key_size q d
    ·rw [Option.map_eq_none_iff] at d; exact key_size q d
    ·cases d
    ·rename_i e; cases e
  cases x <;> simp only [isKey,cg] at j
  cases y <;> simp only [akey,akey1,reduceCtorEq] at hr
  split at hr
  ·rename_i p;exact A μ w (some m) _ _ u v _ _ r B ⟨_,rfl⟩ ⟨_,rfl⟩ hx G rfl rfl p j hr
  ·cases hr
theorem rf {t:TypeId} {L:KeyT} {x:AVal} {u:Value} (y:keyT E.P t=some L) (hx:VRel E μ x u) (B:isKey L x=true) (D:Bool) (n:Nat) (w:World):(Instr.checkKey D (n+2) t u).run E.P w = .ok () w:=by
 have e:∀ (n:Nat) (t:TypeId) (u:Value) (w:World),(E.P.underlying t=some .bool∨(∃ k,E.P.underlying t=some (.int k))∨E.P.underlying t=some .string)→(Instr.checkKey D (n+1) t u).run E.P w = .ok () w:=by intro n t u w j;rcases j with j | ⟨k,j⟩ | j <;> (unfold Instr.checkKey; simp [run_underlying j])
 unfold keyT at y;split at y
 ·cases y
 split at y <;> (try cases y)
 ·rename_i j; exact e _ _ _ _ (.inl j)
 ·rename_i k j; exact e _ _ _ _ (.inr (.inl ⟨_,j⟩))
 ·rename_i j; exact e _ _ _ _ (.inr (.inr j))
 ·rename_i fs j;rw [ae] at y;obtain ⟨l,p,rfl⟩:=y;simp only [ckOf,j] at p;split at p
  ·cases p
  cases x <;> simp only [isKey,cg] at B
  rename_i A;simp only [VRel] at hx;obtain ⟨xs,rfl,Q,G⟩:=hx;rw [show n+2=(n+1)+1 from rfl,Instr.checkKey];simp only [Sem.run_bind,run_underlying j,Result.andThen_ok];rw [← Array.forIn_toList]
  have key:∀ (fs:List Field) (off:Nat) (l:List CK),ckFields (ckOf E.P 1) E.P off fs=some l→areKeys l (A.drop off)=true →
    (forIn fs PUnit.unit fun f r=>do
     if f.name ≠ "_" then do
      let a ← Go.part f.type xs f.offset
      Instr.checkKey D (n+1) f.type a
      pure (ForInStep.yield PUnit.unit)
     else pure (ForInStep.yield PUnit.unit):Sem PUnit).run E.P w = .ok () w:=by
   intro fs;induction fs with
   | nil=>intro off l _ _; simp
   | cons f fs ih =>
    intro off l p y;simp only [ckFields] at p;split at p;case h_2=>cases p
    rename_i U d;split at p;case isFalse=>cases p
    rename_i W;obtain ⟨ho,X,hs,h0⟩:=W;rw [ae] at p;obtain ⟨l2,H,rfl⟩:=p;obtain ⟨k1,N⟩:=nv y;have I:=kh y;simp only [gh,au] at I;obtain ⟨m,hm,J⟩:=yh d hs;obtain ⟨x,hx⟩:=wy (cs:=A) (o:=off) J (by omega);obtain ⟨u,O,_⟩:=qb w hm Q G hx;rw [← ho] at O
    have hb:(Instr.checkKey D (n+1) f.type u).run E.P w = .ok () w:=by
     apply e;simp only [ckOf] at d;split at d <;> (try cases d)
     ·exact .inl (by assumption)
     ·exact .inr (.inl ⟨_,by assumption⟩)
     ·exact .inr (.inr (by assumption))
     ·rename_i K hu;split at d
      ·cases d
      ·cases C:K.toList with
       | nil=>rw [C] at d; simp [ckFields] at d; subst d; simp at h0
       | cons q qs=>rw [C] at d; simp [ckFields] at d
    simp only [List.forIn_cons,Sem.run_bind,X,ne_eq,not_false_eq_true,if_true,O,hb,Result.andThen_ok,Sem.run_pure];exact ih (off+U.length) l2 H (by rw [jp] at N; exact N)
  have:=key fs.toList 0 l p (by simpa using B);have h2:∀ (S:Sem PUnit),S.run E.P w = .ok () w→(S.run E.P w).andThen (fun _ w'=>Result.ok () w') = .ok () w:=fun S h=>by rw [h]; rfl
  exact h2 _ (by simpa using this)
def Found (E:Env) (μ:MM) (i:Nat) (res:Option (Nat × AVal)) (r:Option (Nat × Value)):Prop :=
 match res,r with
 | none,none=>True
 | some (j,v),some (j',v')=>j'=i+j∧VRel E μ v v'
 | _,_=>False
def Entries (E:Env) (μ:MM) (es:List (AVal × AVal × Nat)) (l:List MapEntry):Prop :=
 l.length=es.length∧∀ (k:Nat) (x:AVal × AVal × Nat),es[k]? = some x→∃ y:MapEntry,l[k]? = some y∧VRel E μ x.1 y.key∧VRel E μ x.2.1 y.val∧y.born=x.2.2
theorem Entries.cons {x:AVal × AVal × Nat} {es:List (AVal × AVal × Nat)} {l:List MapEntry} (h:Entries E μ (x :: es) l):∃ y l',l=y :: l'∧VRel E μ x.1 y.key∧VRel E μ x.2.1 y.val∧Entries E μ es l':=by
 obtain ⟨h1,h2⟩:=h;cases l with
 | nil=>simp at h1
 | cons y l =>
  obtain ⟨q,e,d,j,_⟩:=h2 0 x rfl;simp at e; subst e;exact ⟨y,l,rfl,d,j,by simpa using h1,fun k z p=>by simpa using h2 (k+1) z (by simpa using p)⟩
theorem key_cases {x y:AVal} {r:Bool} (h:akey x y=some r):(∃ a b,x = .str a∧y = .str b∧r=decide (a=b))∨(∃ k a b,x = .int k a∧y = .int k b∧r=decide (a=b))∨(∃ a b,x = .bool a∧y = .bool b∧r=decide (a=b))∨∃ a b,x = .agg a∧y = .agg b:=by
 unfold akey at h;split at h
 ·exact .inr (.inr (.inr ⟨_,_,rfl,rfl⟩))
 ·unfold akey1 at h;split at h
  ·cases h; exact .inl ⟨_,_,rfl,rfl,rfl⟩
  ·split at h
   ·rename_i e; subst e; cases h; exact .inr (.inl ⟨_,_,_,rfl,rfl,rfl⟩)
   ·cases h
  ·cases h; exact .inr (.inr (.inl ⟨_,_,rfl,rfl,rfl⟩))
  ·cases h
theorem ze {d:TypeDesc} {x y:AVal} {u v:Value} {b r:Bool} (hx:VRel E μ x u) (e:VRel E μ y v) (hs:Instr.sameNow d u v=some b) (hr:akey x y=some r):b=r:=by
 rcases key_cases hr with ⟨p,q,rfl,rfl,rfl⟩ | ⟨k,p,q,rfl,rfl,rfl⟩ | ⟨p,q,rfl,rfl,rfl⟩ | ⟨p,q,rfl,rfl⟩
 ·simp only [VRel] at hx e; subst hx; subst e;cases d <;> simp only [Instr.sameNow,reduceCtorEq] at hs
  injection hs with hs;rw [← hs,wd,MapKept.bytes_beq]; simp
 ·simp only [VRel] at hx e; subst hx; subst e;cases d <;> simp only [Instr.sameNow,reduceCtorEq] at hs
  simp at hs;rw [← hs,wd]; simp
 ·simp only [VRel] at hx e; subst hx; subst e;cases d <;> simp only [Instr.sameNow,reduceCtorEq] at hs
  injection hs with hs;rw [← hs,wd]; simp
 ·simp only [VRel] at hx e;obtain ⟨_,rfl,_⟩:=hx;obtain ⟨_,rfl,_⟩:=e;cases d <;> simp [Instr.sameNow] at hs
theorem zf {d:TypeDesc} {x:AVal} {u:Value} (hx:VRel E μ x u):∀ {es:List (AVal × AVal × Nat)} {l:List MapEntry} {i:Nat} {A:Option (Nat × AVal)} {r:Option (Nat × Value)},Entries E μ es l→findA x es=some A→Instr.findNow d u l i=some r→Found E μ i A r
 | [],l,i,A,r,H,j,B=>by have:l=[]:=bn (by simpa using H.1);subst this;simp only [findA] at j; cases j;simp only [Instr.findNow] at B; cases B;trivial
 | e :: es,l,i,A,r,H,j,B=>by
  obtain ⟨y,l',rfl,h1,h2,J⟩:=H.cons;simp only [findA] at j;simp only [Instr.findNow] at B;split at B
  ·rename_i hs;cases B;cases C:akey x e.1 with
   | none=>rw [C] at j; cases j
   | some q =>
    have:=ze hx h1 hs C;subst this;rw [C] at j;simp only at j; cases j;exact ⟨rfl,h2⟩
  ·rename_i hs;cases C:akey x e.1 with
   | none=>rw [C] at j; cases j
   | some q =>
    have:=ze hx h1 hs C;subst this;rw [C] at j;simp only at j;rw [ae] at j;obtain ⟨D,I,rfl⟩:=j;have G:=zf hx J I B;cases D with
    | none=>cases r <;> exact G
    | some p =>
     cases r with
     | none=>exact G
     | some q=>exact ⟨by have:=G.1; omega,G.2⟩
  ·cases B
theorem tz {t:TypeId} {J:KeyT} {x:AVal} {u:Value} (K:keyT E.P t=some J) (hx:VRel E μ x u) (B:isKey J x=true) (w:World):∀ {es:List (AVal × AVal × Nat)} {l:List MapEntry} {i:Nat} {j:Option (Nat × AVal)},
  Entries E μ es l→findA x es=some j→∃ r,(Instr.findAsking t u l i).run E.P w = .ok r w∧Found E μ i j r
 | [],l,i,j,H,d=>by have:l=[]:=bn (by simpa using H.1);subst this;simp only [findA] at d; cases d;exact ⟨none,by simp [Instr.findAsking],trivial⟩
 | e :: es,l,i,j,H,d=>by
  obtain ⟨y,l',rfl,h1,h2,L⟩:=H.cons;simp only [findA] at d;cases A:akey x e.1 with
  | none=>rw [A] at d; cases d
  | some q =>
   have C:=key_eq K hx h1 B A w;rw [A] at d;cases q with
   | true =>
    simp only at d; cases d;exact ⟨some (i,y.val),by simp [Instr.findAsking,C],rfl,h2⟩
   | false =>
    simp only at d;rw [ae] at d;obtain ⟨D,I,rfl⟩:=d;obtain ⟨r,hr,G⟩:=tz K hx B w (i:=i+1) L I;refine ⟨r,by simp [Instr.findAsking,C,hr],?_⟩;cases D with
    | none=>cases r <;> exact G
    | some p =>
     cases r with
     | none=>exact G
     | some q=>exact ⟨by have:=G.1; omega,G.2⟩
theorem kx {t:TypeId} {y:KeyT} {x:AVal} {u:Value} (A:keyT E.P t=some y) (hx:VRel E μ x u) (j:isKey y x=true) (w:World) {es:List (AVal × AVal × Nat)} {l:List MapEntry} {e:Option (Nat × AVal)}
  (B:Entries E μ es l) (C:findA x es=some e):∃ r,(Instr.findKey t u l).run E.P w = .ok r w∧Found E μ 0 e r:=by
 have p:∃ d,E.P.underlying t=some d:=by
  cases p:E.P.underlying t with
  | none=>simp [keyT,p] at A
  | some ty=>exact ⟨ty,rfl⟩
 obtain ⟨d,hd⟩:=p;cases q:Instr.findNow d u l 0 with
 | some r=>exact ⟨r,MapKept.run_findKey hd q,zf hx B C q⟩
 | none =>
  obtain ⟨r,hr,h2⟩:=tz A hx j w (i:=0) B C;exact ⟨r,by simp [Instr.findKey,run_underlying hd,Result.andThen,q,hr],h2⟩
theorem zbp {x y:AVal} (h:akey1 x y=some true):x=y∧(∃ c:CK,c.is x=true):=by
 unfold akey1 at h;split at h
 ·simp at h; exact ⟨by rw [h],.s,rfl⟩
 ·split at h
  ·rename_i e; subst e; simp at h; exact ⟨by rw [h],.i,rfl⟩
  ·cases h
 ·simp at h; exact ⟨by rw [h],.b,rfl⟩
 ·cases h
theorem zbq:∀ {aZ bs:List AVal},akeyL aZ bs=some true→aZ=bs∧∀ x ∈ aZ,∃ c:CK,c.is x=true
 | [],[],_=>⟨rfl,by simp⟩
 | a :: aZ,b :: bs,h=>by
  simp only [akeyL] at h;split at h
  ·rename_i h1;obtain ⟨rfl,h2⟩:=zbp h1;obtain ⟨rfl,d⟩:=zbq h
   exact ⟨rfl,fun x hx=>by
    rcases cj.1 hx with rfl | hx
    ·exact h2
    ·exact d x hx⟩
  ·cases h
  ·cases h
 | [],_ :: _,h=>by simp [akeyL] at h
 | _ :: _,[],h=>by simp [akeyL] at h
theorem key_val {x:AVal} {u v:Value} (hc:∃ c:CK,c.is x=true) (d:VRel E μ x u) (e:VRel E μ x v):u=v∧∀ n,Instr.sameBits n u u=true:=by obtain ⟨c,hc⟩:=hc;cases x <;> cases c <;> simp only [CK.is,cg] at hc <;> (simp only [VRel] at d e; subst d; subst e; refine ⟨rfl,fun n=>?_⟩; cases n <;> simp [Instr.sameBits,MapKept.bytes_beq])
theorem keys_val:∀ {aZ:List AVal} {l r:List Value},(∀ x ∈ aZ,∃ c:CK,c.is x=true)→VRels E μ aZ l→VRels E μ aZ r→l=r∧∀ u ∈ l,∀ n,Instr.sameBits n u u=true
 | [],l,r,_,h1,h2=>by simp only [VRels] at h1 h2; subst h1; subst h2;exact ⟨rfl,by simp⟩
 | a :: aZ,l,r,h,h1,h2=>by
  simp only [VRels] at h1 h2;obtain ⟨u,l,rfl,e,j⟩:=h1;obtain ⟨v,r,rfl,p,q⟩:=h2;obtain ⟨rfl,y⟩:=key_val (h a (a8 ..)) e p;obtain ⟨rfl,A⟩:=keys_val (fun x hx=>h x (bd _ hx)) j q
  exact ⟨rfl,fun z d=>by
   rcases cj.1 d with rfl | d
   ·exact y
   ·exact A z d⟩
theorem run_stays {x y:AVal} {u v:Value} (h:akey x y=some true) (hx:VRel E μ x u) (j:VRel E μ y v) (w:World):(Instr.keyThatStays v u).run E.P w = .ok u w:=by
 have:Instr.sameBits 10000 v u=true:=by
  unfold akey at h;split at h
  ·split at h
   ·obtain ⟨rfl,h1⟩:=zbq h;simp only [VRel] at hx j;obtain ⟨a,rfl,h2,_⟩:=hx;obtain ⟨b,rfl,G,_⟩:=j;obtain ⟨e,H⟩:=keys_val h1 h2 G;have I:a=b:=Array.toList_inj.1 e;subst I
    have d:(a.toList.zip a.toList).all (fun (x,y)=>Instr.sameBits 9999 x y)=true:=by
     rw [ap];rintro ⟨p,q⟩ A
     have:p=q∧p ∈ a.toList:=by obtain ⟨k,D⟩:=gu A;rw [List.getElem?_zip_eq_some] at D;obtain ⟨B,C⟩:=D;simp only at B C;rw [B] at C;exact ⟨ce C,br B⟩
     obtain ⟨rfl,J⟩:=this;exact H p J 9999
    show (a.size == a.size && _)=true
    rw [d]; simp
   ·cases h
  ·obtain ⟨rfl,h1⟩:=zbp h;obtain ⟨rfl,h2⟩:=key_val h1 hx j;exact h2 10000
 simp [Instr.keyThatStays,this]
theorem vb {x:AVal}:∀ {es:List (AVal × AVal × Nat)} {j:Nat} {v:AVal},findA x es=some (some (j,v))→∃ e,es[j]? = some e∧akey x e.1=some true
 | [],j,v,h=>by simp [findA] at h
 | e :: es,j,v,h=>by
  simp only [findA] at h;split at h
  ·rename_i d; cases h; exact ⟨e,rfl,d⟩
  ·rw [ae] at h;obtain ⟨r,h1,h2⟩:=h;cases r with
   | none=>simp at h2
   | some p =>
    obtain ⟨B,v'⟩:=p;simp at h2;obtain ⟨rfl,rfl⟩:=h2;obtain ⟨q,y,A⟩:=vb h1;exact ⟨q,by simpa using y,A⟩
  ·cases h
theorem run_zeroA {P:Program} {t:TypeId} {z:AVal} (d:zeroA P t=some z) (μ:MM) (w:World):∃ v,(zeroValue t).run P w = .ok v w∧VRel E μ z v:=by
 unfold zeroA at d;split at d;case h_2=>cases d
 rename_i i hi;split at d;case h_2=>cases d
 rename_i v e;exact ⟨v,by simp [zeroValue,typeInfo,hi,e],toA_rel d μ⟩
theorem wz (hr:Rel E μ h w) {r:Nat} {es:List (AVal × AVal × Nat)} {c:Nat} (d:h.get r=some (.map es c)):∃ (m:M) (es':Array MapEntry),μ[r]? = some (some m)∧w.heap[m.blk]? = some (.map es' c)∧Entries E μ es es'.toList:=by obtain ⟨m,es',h1,h2,e,j⟩:=hr.obj r _ d;exact ⟨m,es',h1,h2,by simpa using e,fun k x p=>by obtain ⟨y,y1,q⟩:=j k x p; exact ⟨y,by simpa using y1,q⟩⟩
theorem zbr {r:Nat} {u:Value} {m:M} (hx:VRel E μ (.map (some r)) u) (hm:μ[r]? = some (some m)):u = .map (some m.blk):=by simp only [VRel] at hx;obtain ⟨b,x,rfl,h1,h2⟩:=hx;rw [hm] at h1; cases h1;rw [h2 m rfl]
theorem lookup_rel (hr:Rel E μ h w) {t k e:TypeId} {O:KeyT} {z:AVal} {ok:Bool} {x y v:AVal} {u i:Value} {h':Heap} (J:E.P.underlying t=some (.map k e)) (K:keyT E.P k=some O) (X:zeroA E.P e=some z) (hx:VRel E μ x u) (L:VRel E μ y i)
  (D:ct (.lookup O z ok) [x,y] h=some (v,h')):h'=h∧∃ r,(Instr.lookup t u i ok).run E.P w = .ok r w∧VRel E μ v r:=by
 simp only [ct] at D;split at D;case isFalse=>cases D
 rename_i B;split at D;case h_2=>cases D
 rename_i es A
 have G:∃ l:Array MapEntry,Entries E μ es l.toList∧((u = .map none∧l = #[])∨∃ b c,u = .map (some b)∧w.heap[b]? = some (.map l c)):=by
  unfold entriesOf at A;split at A
  ·cases A;simp only [VRel] at hx;exact ⟨#[],⟨rfl,by simp⟩,.inl ⟨hx,rfl⟩⟩
  ·rename_i r;split at A
   ·rename_i a0 c hg;cases A;obtain ⟨m,es',h1,h2,h3⟩:=wz hr hg;exact ⟨es',h3,.inr ⟨_,_,zbr hx h1,h2⟩⟩
   ·cases A
  ·cases A
 obtain ⟨l,Q,U⟩:=G;have d:=rf K L B l.isEmpty 9998 w;split at D
 ·rename_i j v0 N;cases D;refine ⟨rfl,?_⟩;obtain ⟨r,q,C⟩:=kx K L B w Q N;cases r with
  | none=>exact C.elim
  | some p =>
   refine ⟨if ok then .tuple #[p.2,.bool true] else p.2,?_,?_⟩
   ·rcases U with ⟨rfl,rfl⟩ | ⟨b,c,rfl,hb⟩
    ·simp at d q;simp [Instr.lookup,run_underlying J,d,q]
    ·simp at d q;simp [Instr.lookup,run_underlying J,MapKept.run_getObj_map hb,d,q]
   ·cases ok with
    | true=>simp only [if_true,VRel]; exact ⟨_,rfl,by simp [VRels,VRel,C.2]⟩
    | false=>simpa using C.2
 ·rename_i N;cases D;refine ⟨rfl,?_⟩;obtain ⟨r,q,C⟩:=kx K L B w Q N;obtain ⟨W,H,I⟩:=run_zeroA (E:=E) X μ w;cases r with
  | some p=>exact C.elim
  | none =>
   refine ⟨if ok then .tuple #[W,.bool false] else W,?_,?_⟩
   ·rcases U with ⟨rfl,rfl⟩ | ⟨b,c,rfl,hb⟩
    ·simp at d q;simp [Instr.lookup,run_underlying J,d,q,H]
    ·simp at d q;simp [Instr.lookup,run_underlying J,MapKept.run_getObj_map hb,d,q,H]
   ·cases ok with
    | true=>simp only [if_true,VRel]; exact ⟨_,rfl,by simp [VRels,VRel,I]⟩
    | false=>simpa using I
 ·cases D
theorem zac (p:FRel E lo ν μ (sget s) a.tmps w) (hr:Rel E μ h w) {dst:Option Tmp} {A:Result Next} (hd:∀ x,dst=some x→x < a.tmps.size) {r:Nat} {m:M} {es:List (AVal × AVal × Nat)} {es' l:Array MapEntry} {c c0:Nat}
  (hb:h.base≤r) (hm:μ[r]? = some (some m)) (_hblk:w.heap[m.blk]? = some (.map l c0)) (d:Entries E μ es es'.toList)
  (e:A = .ok .skip (cz w m.blk (.map es' c))∨A = .ok (.value (.tuple #[])) (cz w m.blk (.map es' c))) :
  OpDone E lo ν.ds μ w a dst A (.val (.tuple [])) s (h.put r (.map es c)):=by
 have B:=hr.lt r m hm;refine ⟨Go.undef,cz w m.blk (.map es' c),μ,ν,rfl,?_,Step.put hm (fj _ _) _,hr.put hb hm ?_,?_⟩
 ·rcases e with h1 | h1
  ·exact .inr ⟨rfl,h1⟩
  ·exact .inl h1
 ·exact ⟨m,es',hm,gp B,by simpa using d.1,fun k x C=>by obtain ⟨y,y1,D⟩:=d.2 k x C; exact ⟨y,by simpa using y1,D⟩⟩
 ·rw [ig];refine FRel.setVal ?_ hd (by simp only [VRel]; exact ⟨#[],rfl,by simp [VRels]⟩);exact p.keep (Later.refl _) (fun t cs' G=>bo (p.sepm t cs' r m G hm)) (fun t cs' j m' _ H hm=>absurd (ah hm) (by omega)) fun q I=>⟨bo ((p.sepd q I).1 r m hm),fun j m' H hm=>absurd (ah hm) (by omega)⟩
theorem zg (hf:FRel E lo ν μ (sget s) a.tmps w) (hr:Rel E μ h w) {dst:Option Tmp} {rr:Result Next} (hd:∀ x,dst=some x→x < a.tmps.size) {t k e:TypeId} {kn:KeyT} {x y z v:AVal} {u i p:Value} {h':Heap}
  (ht:E.P.underlying t=some (.map k e)) (Q:keyT E.P k=some kn) (hx:VRel E μ x u) (L:VRel E μ y i) (hz:VRel E μ z p) (A:ct (.mapupd kn) [x,y,z] h=some (v,h'))
  (G:rr=((Instr.mapUpdate t u i p).run E.P w).andThen fun _ w'=>.ok .skip w'):OpDone E lo ν.ds μ w a dst rr (.val v) s h':=by
 cases x <;> simp only [ct,reduceCtorEq] at A
 rename_i q;cases q with
 | none=>cases A
 | some r =>
  simp only at A;split at A;case isFalse=>cases A
  rename_i hh;obtain ⟨B,hb⟩:=hh;split at A;case h_2=>cases A
  rename_i es c hg;obtain ⟨m,l,h1,h2,H⟩:=wz hr hg;have hu:=zbr hx h1;subst hu;have I:=rf Q L B false 9998 w;split at A
  ·rename_i j v0 C;cases A;obtain ⟨q,J,D⟩:=kx Q L B w H C;cases q with
   | none=>exact D.elim
   | some q =>
    obtain ⟨j',v'⟩:=q;obtain ⟨rfl,_⟩:=D;obtain ⟨e0,g1,g2⟩:=vb C;obtain ⟨y0,g3,g4,g5,g6⟩:=H.2 _ _ g1;have U:=run_stays g2 L g4 w;have N:l[j]? = some y0:=by simpa using g3
    refine zac (c:=c) (es':=l.modify j fun x=>{ x with key:=i,val:=p }) hf hr hd hb h1 h2 ⟨?_,fun k' x' d=>?_⟩ (.inl ?_)
    ·simp [H.1]
    ·rw [List.getElem?_modify] at d;by_cases ej:j=k'
     ·subst ej;rw [g1] at d;simp at d;subst d;refine ⟨{ y0 with key:=i,val:=p },?_,L,hz,g6⟩;simp [N]
     ·have O:es[k']? = some x':=by
       cases hq:es[k']? with
       | none=>rw [hq] at d; simp at d
       | some z0=>rw [hq] at d; simp [ej] at d; rw [d]
      obtain ⟨y1,W,X⟩:=H.2 _ _ O;refine ⟨y1,?_,X⟩;have K:l[k']? = some y1:=by simpa using W
      simp [ej,K]
    ·rw [G];simp [Instr.mapUpdate,run_underlying ht,MapKept.run_getObj_map h2,I,J,N,U,MapKept.run_setObj_map _ h2];rfl
  ·rename_i C;cases A;obtain ⟨q,J,D⟩:=kx Q L B w H C;cases q with
   | some q=>exact D.elim
   | none =>
    refine zac (c:=c+1) (es':=l.push { key:=i,val:=p,born:=c }) hf hr hd hb h1 h2 ⟨?_,fun k' x' d=>?_⟩ (.inl ?_)
    ·have:=H.1; simp at this ⊢; exact this
    ·have hl:=H.1;simp at hl;rcases bh k' es.length with a0 | a6
     ·rw [ag a0] at d;obtain ⟨y1,W,X⟩:=H.2 _ _ d;refine ⟨y1,?_,X⟩;have K:l[k']? = some y1:=by simpa using W
      rw [lm,c8,if_neg (by omega)];exact K
     ·rw [aw a6] at d
      have h0:k'=es.length:=by have:=ah d;simp at this; omega
      subst h0;simp at d;subst d;exact ⟨{ key:=i,val:=p,born:=c },by simp [hl],L,hz,rfl⟩
    ·rw [G];simp [Instr.mapUpdate,run_underlying ht,MapKept.run_getObj_map h2,I,J,MapKept.run_setObj_map _ h2];rfl
  ·cases A
theorem map_putV (p:FRel E lo ν μ (sget s) a.tmps w) (hr:Rel E μ h w) {dst:Option Tmp} {C:Result Next} (hd:∀ x,dst=some x→x < a.tmps.size) {r:Nat} {m:M} {es:List (AVal × AVal × Nat)} {es' l:Array MapEntry} {c c0:Nat} {v:AVal} {u:Value}
  (hb:h.base≤r) (hm:μ[r]? = some (some m)) (_hblk:w.heap[m.blk]? = some (.map l c0)) (d:Entries E μ es es'.toList) (A:VRel E μ v u)
  (e:C = .ok (.value u) (cz w m.blk (.map es' c))) :
  OpDone E lo ν.ds μ w a dst C (.val v) s (h.put r (.map es c)):=by
 have B:=hr.lt r m hm;refine ⟨u,cz w m.blk (.map es' c),μ,ν,rfl,.inl e,Step.put hm (fj _ _) _,hr.put hb hm ?_,?_⟩
 ·exact ⟨m,es',hm,gp B,by simpa using d.1,fun k x D=>by obtain ⟨y,y1,G⟩:=d.2 k x D; exact ⟨y,by simpa using y1,G⟩⟩
 ·rw [ig];refine FRel.setVal ?_ hd A;exact p.keep (Later.refl _) (fun t cs' A=>bo (p.sepm t cs' r m A hm)) (fun t cs' j m' _ H hm=>absurd (ah hm) (by omega)) fun q I=>⟨bo ((p.sepd q I).1 r m hm),fun j m' H hm=>absurd (ah hm) (by omega)⟩
theorem mapentry_done (hf:FRel E lo ν μ (sget s) a.tmps w) (hr:Rel E μ h w) {dst:Option Tmp} {rr:Result Next} (hd:∀ x,dst=some x→x < a.tmps.size) {t k e:TypeId} {kn:KeyT} {x y z v:AVal} {u i:Value} {h':Heap}
  (ht:E.P.underlying t=some (.map k e)) (Q:keyT E.P k=some kn) (hz:zeroA E.P e=some z) (hx:VRel E μ x u) (K:VRel E μ y i) (p:ct (.mapentry kn z) [x,y] h=some (v,h'))
  (D:rr=((Instr.mapEntry t u i).run E.P w).andThen fun v w'=>.ok (.value v) w'):OpDone E lo ν.ds μ w a dst rr (.val v) s h':=by
 cases x <;> simp only [ct,reduceCtorEq] at p
 rename_i q;cases q with
 | none=>cases p
 | some r =>
  simp only at p;split at p;case isFalse=>cases p
  rename_i hh;obtain ⟨A,hb⟩:=hh;split at p;case h_2=>cases p
  rename_i es c hg;obtain ⟨m,l,h1,h2,G⟩:=wz hr hg;have hu:=zbr hx h1;subst hu;have H:=rf Q K A false 9998 w;split at p
  ·rename_i j v0 B;cases p;obtain ⟨q,I,C⟩:=kx Q K A w G B;cases q with
   | none=>exact C.elim
   | some q =>
    obtain ⟨j',v'⟩:=q;obtain ⟨rfl,U⟩:=C;obtain ⟨e0,W,g2⟩:=vb B;obtain ⟨y0,g3,g4,g5,g6⟩:=G.2 _ _ W;have X:=run_stays g2 K g4 w;have L:l[j]? = some y0:=by simpa using g3
    refine map_putV (c:=c) (es':=l.modify j fun x=>{ x with key:=i }) (u:=.tuple #[v',goInt y0.born]) hf hr hd hb h1 h2 ⟨?_,fun k' x' d=>?_⟩ ?_ ?_
    ·simp [G.1]
    ·rw [List.getElem?_modify] at d;by_cases ej:j=k'
     ·subst ej;rw [W] at d;simp at d;subst d;refine ⟨{ y0 with key:=i },?_,K,g5,g6⟩;simp [L]
     ·have N:es[k']? = some x':=by
       cases hq:es[k']? with
       | none=>rw [hq] at d; simp at d
       | some z0=>rw [hq] at d; simp [ej] at d; rw [d]
      obtain ⟨y1,q1,q2⟩:=G.2 _ _ N;refine ⟨y1,?_,q2⟩;have J:l[k']? = some y1:=by simpa using q1
      simp [ej,J]
    ·simp only [VRel];refine ⟨_,rfl,?_⟩;simp [VRels,VRel,U,W,g6,goInt]
    ·rw [D];simp [Instr.mapEntry,run_underlying ht,MapKept.run_getObj_map h2,H,I,L,X,MapKept.run_setObj_map _ h2];rfl
  ·rename_i B;cases p;obtain ⟨q,I,C⟩:=kx Q K A w G B;obtain ⟨zv,a0,O⟩:=run_zeroA (E:=E) hz μ w;cases q with
   | some q=>exact C.elim
   | none =>
    refine map_putV (c:=c+1) (es':=l.push { key:=i,val:=zv,born:=c }) (u:=.tuple #[zv,goInt c]) hf hr hd hb h1 h2 ⟨?_,fun k' x' d=>?_⟩ ?_ ?_
    ·have:=G.1; simp at this ⊢; exact this
    ·have hl:=G.1;simp at hl;rcases bh k' es.length with a6 | aa
     ·rw [ag a6] at d;obtain ⟨y1,q1,q2⟩:=G.2 _ _ d;refine ⟨y1,?_,q2⟩;have J:l[k']? = some y1:=by simpa using q1
      rw [lm,c8,if_neg (by omega)];exact J
     ·rw [aw aa] at d
      have h0:k'=es.length:=by have:=ah d;simp at this; omega
      subst h0;simp at d;subst d;exact ⟨{ key:=i,val:=zv,born:=c },by simp [hl],K,O,rfl⟩
    ·simp only [VRel];refine ⟨_,rfl,?_⟩;simp [VRels,VRel,O,goInt]
    ·rw [D];simp [Instr.mapEntry,run_underlying ht,MapKept.run_getObj_map h2,H,I,a0,MapKept.run_setObj_map _ h2];rfl
  ·cases p
theorem w7 {st:Int}:∀ {es:List (AVal × AVal × Nat)} {l:List MapEntry},Entries E μ es l→l.findIdx? (fun e=>((e.born:Nat):Int) == st)=es.findIdx? (fun e=>((e.2.2:Nat):Int) == st)
 | [],l,h=>by have:l=[]:=bn h.1;subst this; rfl
 | x :: es,l,h=>by obtain ⟨_,d⟩:=h;obtain ⟨y,l',rfl,h1,h2,p⟩:=Entries.cons ⟨by assumption,d⟩;obtain ⟨A,j,_,_,q⟩:=d 0 x rfl;simp at j;subst j;rw [List.findIdx?_cons,List.findIdx?_cons,q,w7 p]
theorem zy (U:FRel E lo ν μ (sget s) a.tmps w) (hr:Rel E μ h w) {dst:Option Tmp} {K:Result Next} (hd:∀ x,dst=some x→x < a.tmps.size) {t:TypeId} {x y z v:AVal} {u i p:Value} {h':Heap}
  (hx:VRel E μ x u) (W:VRel E μ y i) (X:VRel E μ z p) (q:ct .entrystore [x,y,z] h=some (v,h'))
  (A:K=((Instr.entryStore t u i p).run E.P w).andThen fun _ w'=>.ok .skip w'):OpDone E lo ν.ds μ w a dst K (.val v) s h':=by
 have D:∃ r st,x = .map (some r)∧y = .int .i64 st:=by unfold ct at q;split at q <;> simp_all
 obtain ⟨r,st,rfl,rfl⟩:=D;simp only [ct] at q;split at q;case isFalse=>cases q
 rename_i hb;split at q;case h_2=>cases q
 rename_i es c hg;obtain ⟨m,l,h1,h2,C⟩:=wz hr hg;have hu:=zbr hx h1;subst hu;have hi:i = .int .i64 st:=by simpa only [VRel] using W
 subst hi;split at q;case h_2=>cases q
 rename_i j L;cases q
 have G:l.findIdx? (fun e=>((e.born:Nat):Int) == st)=some j:=by have:=w7 (st:=st) C;rw [L] at this;rw [← this];obtain ⟨l⟩:=l;simp
 have H:j < es.length:=by have:=List.findIdx?_eq_some_iff_getElem.1 L;exact this.1
 obtain ⟨N,O⟩:∃ N,es[j]? = some N:=⟨_,ai H⟩;obtain ⟨y0,g3,g4,g5,g6⟩:=C.2 _ _ O;have I:l[j]? = some y0:=by simpa using g3
 refine zac (c:=c) (es':=l.modify j fun x=>{ x with val:=p }) U hr hd hb h1 h2 ⟨?_,fun k' x' d=>?_⟩ (.inl ?_)
 ·simp [C.1]
 ·rw [List.getElem?_modify] at d;by_cases ej:j=k'
  ·subst ej;rw [O] at d;simp at d;subst d;refine ⟨{ y0 with val:=p },?_,g4,X,g6⟩;simp [I]
  ·have B:es[k']? = some x':=by
    cases Q:es[k']? with
    | none=>rw [Q] at d; simp at d
    | some z0=>rw [Q] at d; simp [ej] at d; rw [d]
   obtain ⟨y1,q1,q2⟩:=C.2 _ _ B;refine ⟨y1,?_,q2⟩;have J:l[k']? = some y1:=by simpa using q1
   simp [ej,J]
 ·rw [A];simp [Instr.entryStore,asInt,asIntOf,MapKept.run_getObj_map h2,G,MapKept.run_setObj_map _ h2];rfl
theorem delete_done (Q:FRel E lo ν μ (sget s) a.tmps w) (hr:Rel E μ h w) {dst:Option Tmp} {X:Result Next} (hd:∀ x,dst=some x→x < a.tmps.size) {t k e:TypeId} {ts:Array TypeId} {ty:TypeId} {kn:KeyT} {x y v:AVal} {u i:Value} {h':Heap}
  (H:ts[0]? = some t) (U:E.P.underlying t=some (.map k e)) (N:keyT E.P k=some kn) (hx:VRel E μ x u) (O:VRel E μ y i) (p:ct (.delete kn) [x,y] h=some (v,h'))
  (B:X=((Builtin.delete_ ts ty #[u,i]).run E.P w).andThen fun v w'=>.ok (.value v) w'):OpDone E lo ν.ds μ w a dst X (.val v) s h':=by
 cases x <;> simp only [ct,reduceCtorEq] at p
 rename_i q;cases q with
 | none =>
  simp only at p;split at p;case isFalse=>cases p
  rename_i d;cases p;simp only [VRel] at hx; subst hx;have A:=rf N O d true 9998 w;refine dv Q hr hd (v:=.tuple #[]) ?_ (by simp only [VRel]; exact ⟨#[],rfl,by simp [VRels]⟩);rw [B];simp [Builtin.delete_,H,run_underlying U,A]
 | some r =>
  simp only at p;split at p;case isFalse=>cases p
  rename_i hh;obtain ⟨d,hb⟩:=hh;split at p;case h_2=>cases p
  rename_i es c hg;obtain ⟨m,l,h1,h2,L⟩:=wz hr hg;have hu:=zbr hx h1;subst hu;have A:=rf N O d l.isEmpty 9998 w;split at p
  ·rename_i j v0 C;cases p;obtain ⟨q,I,D⟩:=kx N O d w L C;cases q with
   | none=>exact D.elim
   | some q =>
    obtain ⟨j',v'⟩:=q;obtain ⟨rfl,_⟩:=D;obtain ⟨e0,g1,_⟩:=vb C;have W:=L.1;simp at W;have hj:j < l.size:=by rw [W]; exact ah g1
    refine zac (c:=c) (es':=l.eraseIdxIfInBounds j) Q hr hd hb h1 h2 ⟨?_,fun k' x' G=>?_⟩ (.inr ?_)
    ·simp [Array.eraseIdxIfInBounds,hj,List.length_eraseIdx,← W]
    ·rw [List.getElem?_eraseIdx] at G;simp only [Array.eraseIdxIfInBounds,hj,dif_pos,Array.toList_eraseIdx,List.getElem?_eraseIdx];split at G
     ·rename_i J; rw [if_pos J]; exact L.2 _ _ G
     ·rename_i J; rw [if_neg J]; exact L.2 _ _ G
    ·rw [B];simp [Builtin.delete_,H,run_underlying U,MapKept.run_getObj_map h2,A,I,MapKept.run_setObj_map _ h2];rfl
  ·rename_i C;cases p;obtain ⟨q,I,D⟩:=kx N O d w L C;cases q with
   | some q=>exact D.elim
   | none =>
    have K:({ w with heap:=w.heap.setIfInBounds m.blk (.map l c) }:World)=w:=by
     congr 1;apply Array.ext_getElem?;intro k';by_cases e:m.blk=k'
     ·subst e;rw [h2];have:=hr.lt _ _ h1;simp [this]
     ·rw [dm e]
    refine dv Q hr hd (v:=.tuple #[]) ?_ (by simp only [VRel]; exact ⟨#[],rfl,by simp [VRels]⟩);rw [B];simp [Builtin.delete_,H,run_underlying U,MapKept.run_getObj_map h2,A,I,MapKept.run_setObj_map _ h2,K]
  ·cases p
end
end Go.Abs

namespace Go.Abs
section
variable {E:Env} {lo:Nat} {ν:Fr} {μ:MM} {s:Slots} {h:Heap} {a:Act} {w:World}
theorem nh {P:Program} {S:Sem Value} {v:Value} {w w':World} (d:S.run P w = .ok v w'):(do pure (Next.value (← S)):Sem Next).run P w = .ok (.value v) w':=by simp [d]
def plainEq:Value→Bool
 | .bool _ | .pointer _ | .slice _ _ _ | .map _ | .func _ _ _ | .nilFunc=>true
 | _=>false
def kindIs (k:NilKind) (d:TypeDesc):Prop :=
 match k with
 | .ptr=>∃ e,d = .pointer e
 | .slice=>∃ e,d = .slice e
 | .map=>∃ a b,d = .map a b
 | .func=>∃ a b c,d = .func a b c
theorem eqNil_rel {P:Program} {k:NilKind} {x y:AVal} {u v:Value} {d:TypeDesc} {t:TypeId} {b:Bool} (w:World) (hx:VRel E μ x u) (j:VRel E μ y v) (q:P.underlying t=some d)
  (A:kindIs k d) (h:aEqNil k x y=some b):plainEq u=true∧(Op.equal t u v).run P w = .ok b w:=by
 suffices plainEq u=true∧∀ n:Nat,(Op.equalIn (n+1) t u v).run P w = .ok b w from ⟨this.1,this.2 9999⟩
 unfold aEqNil at h;split at h <;> (try cases h)
 ·obtain ⟨e,rfl⟩:=A;simp only [VRel] at hx; subst hx;refine ⟨rfl,fun n=>?_⟩;rename_i p;cases p with
  | none=>simp only [VRel] at j; subst j; simp [Op.equalIn,run_underlying q]
  | some p=>simp only [VRel] at j; obtain ⟨_,rfl,_⟩:=j; simp [Op.equalIn,run_underlying q]
 ·obtain ⟨e,rfl⟩:=A;simp only [VRel] at hx j;obtain ⟨_,rfl,_⟩:=hx; subst j;exact ⟨rfl,fun n=>by simp [Op.equalIn,run_underlying q]⟩
 ·obtain ⟨e,rfl⟩:=A;simp only [VRel] at hx;obtain ⟨_,_,rfl⟩:=hx;refine ⟨rfl,fun n=>?_⟩;rename_i p _ _ _ _;cases p with
  | none=>simp only [VRel] at j; obtain ⟨_,_,rfl⟩:=j; simp [Op.equalIn,run_underlying q]
  | some p=>simp only [VRel] at j; obtain ⟨_,_,rfl,_⟩:=j; simp [Op.equalIn,run_underlying q]
 ·obtain ⟨e,rfl⟩:=A;simp only [VRel] at hx j;obtain ⟨_,_,rfl,_⟩:=hx; obtain ⟨_,_,rfl⟩:=j;exact ⟨rfl,fun n=>by simp [Op.equalIn,run_underlying q]⟩
 ·obtain ⟨e,C,rfl⟩:=A;simp only [VRel] at hx; subst hx;refine ⟨rfl,fun n=>?_⟩;rename_i p;cases p with
  | none=>simp only [VRel] at j; subst j; simp [Op.equalIn,run_underlying q]
  | some p=>simp only [VRel] at j; obtain ⟨_,_,rfl,_⟩:=j; simp [Op.equalIn,run_underlying q]
 ·obtain ⟨e,C,rfl⟩:=A;simp only [VRel] at hx j;obtain ⟨_,_,rfl,_⟩:=hx; subst j;exact ⟨rfl,fun n=>by simp [Op.equalIn,run_underlying q]⟩
 ·obtain ⟨e,C,B,rfl⟩:=A;simp only [VRel] at hx j; subst hx; subst j;exact ⟨rfl,fun n=>by simp [Op.equalIn,run_underlying q]⟩
 ·obtain ⟨e,C,B,rfl⟩:=A;simp only [VRel] at hx j; subst hx;obtain ⟨_,_,_,rfl,_⟩:=j;exact ⟨rfl,fun n=>by simp [Op.equalIn,run_underlying q]⟩
 ·obtain ⟨e,C,B,rfl⟩:=A;simp only [VRel] at hx j; subst j;obtain ⟨_,_,_,rfl,_⟩:=hx;exact ⟨rfl,fun n=>by simp [Op.equalIn,run_underlying q]⟩
theorem run_eq {P:Program} {d:Bool} {t:TypeId} {u v:Value} {b:Bool} (j:plainEq u=true) (x y:Operand) (p:(Op.equal t u v).run P w = .ok b w) :
  (do eqGuard (if d then .neq else .eql) t x y u v; binOp (if d then .neq else .eql) t u v:Sem Value).run P w = .ok (.bool (if d then !b else b)) w:=by
 have q:(eqGuard (if d then .neq else .eql) t x y u v).run P w = .ok () w:=ub _ t x y u v w (fun c e=>by subst e; cases j) (fun e=>by subst e; cases j);rw [Sem.run_bind,q,Result.andThen_ok]
 have key:∀ op,(op = .eql→(binOp op t u v).run P w = .ok (.bool b) w)∧(op = .neq→(binOp op t u v).run P w = .ok (.bool !b) w):=by intro op;constructor <;> (rintro rfl; unfold binOp; cases u <;> (try cases j) <;> cases v <;> simp [p])
 cases d
 ·exact (key .eql).1 rfl
 ·exact (key .neq).2 rfl
theorem beq_rel {P:Program} {t:TypeId} {a b:Bool} (d:P.underlying t=some .bool) (w:World):(Op.equal t (.bool a) (.bool b)).run P w = .ok (a == b) w:=by
 suffices ∀ n:Nat,(Op.equalIn (n+1) t (.bool a) (.bool b)).run P w = .ok (a == b) w from this 9999
 intro n;simp [Op.equalIn,run_underlying d]
theorem zbo {P:Program} (t e:TypeId) (i:TypeInfo) (z:Value) (q:P.underlying t=some (.slice e)) (hi:P.info? e=some i) (B:i.zero=some z)
  (n c:Nat) (C:n≤c) (p:(i.bytes:Int)*(c:Int)≤281474976710656) (d:c≤9223372036854775807) (w:World) :
  (Instr.makeSlice t (.int .i64 (n:Int)) (.int .i64 (c:Int))).run P w =
   .ok (.slice (some ⟨w.heap.size,0,none⟩) n c) { w with heap:=w.heap.push (.cells ((Array.range (c*i.size)).map fun j=>z.cells[j % z.cells.size]!) e (0,0)) }:=by
 have hw:∀ k:Nat,k≤9223372036854775807→IntKind.i64.wrap (k:Int)=k:=by intro k D;simp only [IntKind.wrap,IntKind.bits,IntKind.signed];simp;omega
 have h1:¬ (281474976710656 < (i.bytes:Int)*(c:Int)):=by omega
 have h2:¬ ((c:Int) < 0):=by omega
 have y:¬ ((n:Int) < 0):=by omega
 have A:¬ (c < n):=by omega
 by_cases h0:c*i.size=0
 ·simp [Instr.makeSlice,run_underlying q,typeInfo,hi,asInt,asIntOf,hw c d,hw n (by omega),h1,h2,y,A,sizeOf,h0,newRow,show Array.range 0 = #[] from rfl]
 ·simp [Instr.makeSlice,run_underlying q,typeInfo,hi,asInt,asIntOf,hw c d,hw n (by omega),h1,h2,y,A,sizeOf,h0,newRow,zeroValue,B]
theorem v9 {s:Slots} {t:Nat} (h:isVar s t=true):∃ cs,sget s t=some (.var cs):=by
 unfold isVar at h;split at h
 ·rename_i cs h1; exact ⟨cs,h1⟩
 ·cases h
theorem evs2 {x y:Opd} {vs:List AVal} (h:evs s [x,y]=some vs):∃ u v,vs=[u,v]∧x.ev s=some u∧y.ev s=some v:=by
 cases hx:x.ev s with
 | none=>simp [evs,hx] at h
 | some u =>
  cases d:y.ev s with
  | none=>simp [evs,d] at h
  | some v=>simp [evs,hx,d] at h; exact ⟨u,v,h.symm,rfl,rfl⟩
theorem evs3 {x y z:Opd} {vs:List AVal} (h:evs s [x,y,z]=some vs):∃ u v p,vs=[u,v,p]∧x.ev s=some u∧y.ev s=some v∧z.ev s=some p:=by
 cases hx:x.ev s with
 | none=>simp [evs,hx] at h
 | some u =>
  cases d:y.ev s with
  | none=>simp [evs,d] at h
  | some v =>
   cases e:z.ev s with
   | none=>simp [evs,e] at h
   | some p=>simp [evs,hx,d,e] at h; exact ⟨u,v,p,h.symm,rfl,rfl,rfl⟩
theorem aggs_rel {C:Bool} {t:TypeId} {ks:List CK} {x y:AVal} {u v:Value} {d:TypeDesc} {r:AVal} {h':Heap} (hd:E.P.underlying t=some d) (H:(∃ fs,d = .struct fs)∨∃ n e,d = .array n e) (N:E.P.eqGuardType E.P.depth t=false) (I:ckOf E.P 20 t=some ks)
  (hx:VRel E μ x u) (J:VRel E μ y v) (j:ct (.pure (.eqcells C ks)) [x,y] h=some (r,h')) (p q:Operand) :
  h'=h∧∃ b,r = .bool b∧(do eqGuard (if C then .neq else .eql) t p q u v; binOp (if C then .neq else .eql) t u v:Sem Value).run E.P w = .ok (.bool b) w:=by
 simp only [ct,evPure] at j;rw [ae] at j;obtain ⟨W,j,K⟩:=j;cases K;cases x <;> simp only [evEq,reduceCtorEq] at j
 cases y <;> simp only [reduceCtorEq] at j
 rename_i A B;split at j;case isFalse=>cases j
 rename_i O;obtain ⟨Q,D⟩:=O;rw [ae] at j;obtain ⟨b,hb,j⟩:=j;cases j
 have U:∃ m,partT E.P t=some (some m):=by obtain ⟨i,hi⟩:=info_of_underlying hd;refine ⟨i.size,?_⟩;rcases H with ⟨fs,rfl⟩ | ⟨n,e,rfl⟩ <;> simp [partT,hd,sizeT,hi]
 obtain ⟨m,hm⟩:=U;have G:=eq_ck 20 t ks I 9980 μ w (some m) _ _ u v _ _ b hm ⟨_,rfl⟩ ⟨_,rfl⟩ hx J rfl rfl D Q hb;simp only [VRel] at hx J;obtain ⟨xs,rfl,_⟩:=hx;obtain ⟨L,rfl,_⟩:=J;refine ⟨rfl,_,rfl,?_⟩;rw [Sem.run_bind,run_eqGuard_agg w _ t p q xs L N,Result.andThen_ok];cases C
 ·simp only [cg,if_false];rw [run_eql_struct w t xs L,G]; rfl
 ·simp only [if_true];rw [run_neq_struct w t xs L,G]; rfl
theorem ib_find {fn:Func} (h:fn.name = "internal/bytealg.IndexByteString"):Extern.find fn=some Extern.BytealgIndexByte.indexByte:=by
 have h1:Extern.allGenericRows.lookup "internal/bytealg.IndexByteString" = none:=by kernel_rfl
 have h2:Extern.allTypedRows.lookup "internal/bytealg.IndexByteString" = none:=by kernel_rfl
 have d:Extern.allRows.lookup "internal/bytealg.IndexByteString" = some Extern.BytealgIndexByte.indexByte:=by kernel_rfl
 unfold Extern.find;simp only [h,h1,h2,d];rfl
theorem cb_find {fn:Func} (h:fn.name = "internal/bytealg.CountString"):Extern.find fn=some Extern.BytealgCount.count:=by
 have h1:Extern.allGenericRows.lookup "internal/bytealg.CountString" = none:=by kernel_rfl
 have h2:Extern.allTypedRows.lookup "internal/bytealg.CountString" = none:=by kernel_rfl
 have d:Extern.allRows.lookup "internal/bytealg.CountString" = some Extern.BytealgCount.count:=by kernel_rfl
 unfold Extern.find;simp only [h,h1,h2,d];rfl
theorem next_none {fn:Func} (h:fn.name = "internal/bytealg.IndexByteString" ∨ fn.name = "internal/bytealg.CountString") (ho:fn.origin = ""):Extern.findNext fn=none:=by
 have h1:Extern.allNextRows.lookup "internal/bytealg.IndexByteString" = none:=by kernel_rfl
 have h2:Extern.allNextRows.lookup "internal/bytealg.CountString" = none:=by kernel_rfl
 have d:Extern.allNextRows.lookup "" = none:=by kernel_rfl
 unfold Extern.findNext;rcases h with h | h
 ·simp only [h,ho,h1,d]; rfl
 ·simp only [h,ho,h2,d]; rfl
theorem prim_done {call:CallSem} {d:Nat} {o:Oper} {k:PrimK} {f:FuncId} {c:Call} {aZ:List Opd} {x:Slot} {U:Slots} {h':Heap} (J:FRel E lo ν μ (sget s) a.tmps w) (hr:Rel E μ h w) (hd:∀ t,o.dst=some t→t < a.tmps.size)
  (ho:o.op = .call c) (G:c.callee = .value (.func f)) (K:cOpds E c.args.toList=some aZ) (A:primOf E.P f=some k) (q:c7 call d (.ext (.pure (.prim k)) aZ) s h=some (x,U,h')) :
  OpDone E lo ν.ds μ w a o.dst ((execOp a.eval o).run E.P w) x U h':=by
 simp only [c7] at q;split at q;case h_2=>cases q
 rename_i vs L;rw [ae] at q;obtain ⟨⟨u,h1⟩,j,q⟩:=q;cases q;simp only [ct,evPure] at j;rw [ae] at j;obtain ⟨W,j,e⟩:=j;cases e;have y:=jr J K L;unfold primOf at A;split at A;case h_2=>cases A
 rename_i fn H;split at A;case isFalse=>cases A
 rename_i B
 have I:(execOp a.eval o).run E.P w=(callFunc f (c.args.map a.eval)).run E.P w:=by simp [execOp,ho,resolve,G,Act.eval,Deferred.ofValue,invoke]
 rw [I];have C:c.args.map a.eval=(c.args.toList.map a.eval).toArray:=by apply Array.ext'; simp
 rw [C];split at A
 ·rename_i p;cases A;have N:(fn.name == "runtime.NumGoroutine")=false:=by rw [p]; decide
  unfold evPrim at j;split at j
  ·rename_i sb cb D;cases D;cases j;simp only [VRels,VRel] at y;obtain ⟨_,_,O,rfl,_,_,Q,rfl,rfl⟩:=y;subst Q;rw [O];refine dv J hr hd (v:=.int .i64 (Lib.indexByte sb cb.toNat.toUInt8)) ?_ (by simp only [VRel]);rw [run_callFunc_extern H N B.1 (next_none (.inl p) B.2) (ib_find p),Lib.run_indexByteString];rfl
  ·exact absurd ‹PrimK.indexByte=PrimK.countByte› (by simp)
  ·cases j
 ·split at A
  case isFalse =>
   split at A;case isFalse=>cases A
   cases A;unfold evPrim at j;split at j
   ·exact absurd ‹PrimK.noZero=PrimK.indexByte› (by simp)
   ·exact absurd ‹PrimK.noZero=PrimK.countByte› (by simp)
   ·cases j
  rename_i p;cases A;have N:(fn.name == "runtime.NumGoroutine")=false:=by rw [p]; decide
  unfold evPrim at j;split at j
  ·exact absurd ‹PrimK.countByte=PrimK.indexByte› (by simp)
  ·rename_i sb cb D;cases D;cases j;simp only [VRels,VRel] at y;obtain ⟨_,_,O,rfl,_,_,Q,rfl,rfl⟩:=y;subst Q;rw [O];refine dv J hr hd (v:=.int .i64 (Lib.countByte sb cb.toNat.toUInt8)) ?_ (by simp only [VRel]);rw [run_callFunc_extern H N B.1 (next_none (.inr p) B.2) (cb_find p),Lib.run_countString];rfl
  ·cases j
theorem entry_done (hf:FRel E lo ν μ (sget s) a.tmps w) (hr:Rel E μ h w) {dst:Option Tmp} {rr:Result Next} (hd:∀ x,dst=some x→x < a.tmps.size) {x v:AVal} {u:Value} {h':Heap} (hx:VRel E μ x u)
  (d:ct .entry [x] h=some (v,h')) (A:rr=((Instr.entry u).run E.P w).andThen fun v w'=>.ok (.value v) w'):OpDone E lo ν.ds μ w a dst rr (.val v) s h':=by
 unfold ct at d;split at d
 case h_8 =>
  rename_i i H I;cases I;simp only [VRel] at hx;obtain ⟨ad,B,mo,C,J⟩:=hx;split at d;case h_2=>cases d
  rename_i m since seen last K;split at d;case h_2=>cases d
  rename_i st es clock L N;split at d;case isFalse=>cases d
  rename_i O;subst O;rw [ae] at d;obtain ⟨e,Q,d⟩:=d;cases d;obtain ⟨mi,r',⟨q1,j⟩,q2,q3⟩:=hr.obj _ _ K;rw [q1] at C; cases C;have D:=J mi rfl;subst D;rw [j] at B;obtain ⟨mm,es',p1,p2,p3,p4⟩:=hr.obj _ _ N;simp only [VRel] at q3;obtain ⟨bm,xo,H,I,U⟩:=q3;rw [p1] at I; cases I;have U:=U mm rfl;subst U;have H:r'=some mm.blk:=by simpa using H
  subst H
  have p:∀ (l:List (AVal × AVal × Nat)) (l':List MapEntry),l'.length=l.length→(∀ (k:Nat) (z:AVal × AVal × Nat),l[k]? = some z→∃ y,l'[k]? = some y∧VRel E μ z.1 y.key∧VRel E μ z.2.1 y.val∧y.born=z.2.2) →
    ∀ e,(l.find? fun e=>e.2.2 == st)=some e→∃ y,(l'.find? fun y=>y.born == st)=some y∧VRel E μ e.1 y.key∧VRel E μ e.2.1 y.val:=by
   intro l;induction l with
   | nil=>intro _ _ _ e d; simp at d
   | cons z l ih =>
    intro l' hl hh e d;cases l' with
    | nil=>simp at hl
    | cons y l' =>
     obtain ⟨y0,h1,h2,h3,h4⟩:=hh 0 z rfl;simp at h1;subst h1;rw [List.find?_cons] at d ⊢;rw [h4];cases hz:z.2.2 == st with
     | true =>
      rw [hz] at d;cases d;exact ⟨y,rfl,h2,h3⟩
     | false =>
      rw [hz] at d;exact ih l' (by simpa using hl) (fun k z W=>hh (k+1) z (by simpa using W)) e d
  obtain ⟨y,X,a0,a6⟩:=p es es'.toList (by simpa using p3) (fun k z W=>by obtain ⟨y,y1,y2⟩:=p4 k z W; exact ⟨y,by simpa using y1,y2⟩) e Q;have G:es'.find? (fun y=>y.born == st)=some y:=by rw [← Array.find?_toList]; exact X
  have q:seen.toArray.back? = some st:=by simpa using L
  have aa:(Instr.entry u).run E.P w = .ok (.tuple #[y.key,y.val]) w:=by rw [B];simp [Instr.entry,getObj,Sem.run,q2,p2,Result.andThen,q,G]
  refine dv hf hr hd (v:=.tuple #[y.key,y.val]) (by rw [A,aa]; rfl) ?_;simp only [VRel];exact ⟨_,rfl,by simp only [VRels]; exact ⟨_,_,rfl,a0,_,_,rfl,a6,rfl⟩⟩
 all_goals simp_all
theorem op_sound {call:CallSem} {loc:Bool} {o:Oper} {ao:AOp} {x:Slot} {s':Slots} {h':Heap} (B:cOp E loc o.op=some ao) (ey:∀ f aZ,ao ≠ .call f aZ) (ez:∀ g aZ,ao ≠ .callg g aZ)
  (A:c7 call (o.dst.getD 0) ao s h=some (x,s',h')) (D:FRel E lo ν μ (sget s) a.tmps w) (hr:Rel E μ h w) (ec:lo≤w.heap.size) (hd:∀ t,o.dst=some t→t < a.tmps.size) (e4:loc=true→isStore o.op=false→o.dst.isSome=true) :
  OpDone E lo ν.ds μ w a o.dst ((execOp a.eval o).run E.P w) x s' h':=by
 cases ho:o.op with
 | move y =>
  rw [ho] at B;simp only [cOp] at B;rw [ae] at B;obtain ⟨U,J,rfl⟩:=B;obtain ⟨u,G,rfl,rfl,rfl⟩:=fo (by simpa only [c7] using A);exact dv D hr hd (by simp [execOp,ho]) (cd D J G)
 | assign y =>
  rw [ho] at B;simp only [cOp] at B;rw [ae] at B;obtain ⟨U,J,rfl⟩:=B;obtain ⟨u,G,rfl,rfl,rfl⟩:=fo (by simpa only [c7] using A);exact dv D hr hd (by simp [execOp,ho]) (cd D J G)
 | pick c y z =>
  rw [ho] at B;simp only [cOp] at B;split at B;case h_2=>cases B
  rename_i c' U z' hc J W;cases B;simp only [c7] at A;split at A
  ·rename_i bx;obtain ⟨u,G,rfl,rfl,rfl⟩:=fo A;have h1:=cd D hc bx;simp only [VRel] at h1;exact dv D hr hd (by simp [execOp,ho,h1,asBool]) (cd D J G)
  ·rename_i bx;obtain ⟨u,G,rfl,rfl,rfl⟩:=fo A;have h1:=cd D hc bx;simp only [VRel] at h1;exact dv D hr hd (by simp [execOp,ho,h1,asBool]) (cd D W G)
  ·cases A
 | alloc t =>
  rw [ho] at B;simp only [cOp] at B;split at B;case h_2=>cases B
  rename_i z e W he;obtain ⟨v,k1,k2,k3⟩:=t9 (E:=E) W μ w
  have O:(execOp a.eval o).run E.P w = .ok (.value (.pointer (some ⟨w.heap.size,0,none⟩))) { w with heap:=w.heap.push (.cells v.cells t (0,0)) }:=by simp [execOp,ho,Instr.alloc,k1,newVar,newRow]
  cases loc with
  | true =>
   cases B;simp only [c7] at A; cases A;obtain ⟨d,ci⟩:=Option.isSome_iff_exists.1 (e4 rfl (by rw [ho]; rfl));rw [ci];exact done_var D hr ec (hd d ci) t k2 k3 O
  | false =>
   cases B;simp only [c7] at A; cases A;have aa:h.size=μ.length:=hr.len.symm;rw [aa];exact lw D hr hd _ _ ⟨w.heap.size,0,v.cells.size,e⟩ rfl O rfl rfl rfl rfl (rg k2 k3 rfl) (ptr_new rfl)
 | box t y =>
  rw [ho] at B;simp only [cOp] at B;rw [ae] at B;obtain ⟨U,J,B⟩:=B
  have O:(execOp a.eval o).run E.P w = .ok (.value (.pointer (some ⟨w.heap.size,0,none⟩))) { w with heap:=w.heap.push (.cells (a.eval y).cells t (0,0)) }:=by simp [execOp,ho,Instr.box,newVar,newRow]
  cases loc with
  | true =>
   simp only [if_true] at B;subst B;simp only [c7] at A;split at A;case h_2=>cases A
   rename_i cs a6;cases A;rw [ic] at a6;obtain ⟨u,G,a6⟩:=a6;obtain ⟨k2,k3⟩:=rj (cd D J G) a6;obtain ⟨d,ci⟩:=Option.isSome_iff_exists.1 (e4 rfl (by rw [ho]; rfl));rw [ci];exact done_var D hr ec (hd d ci) t k2 k3 O
  | false =>
   simp only [cg,if_false] at B;subst B;simp only [c7] at A;split at A;case h_2=>cases A
   rename_i cs a6;cases A;rw [ic] at a6;obtain ⟨u,G,a6⟩:=a6;obtain ⟨k2,k3⟩:=rj (cd D J G) a6;have aa:h.size=μ.length:=hr.len.symm;rw [aa];exact lw D hr hd _ _ ⟨w.heap.size,0,(a.eval y).cells.size,cs.length⟩ rfl O rfl rfl rfl rfl (rg k2 k3 rfl) (ptr_new rfl)
 | build t ps =>
  rw [ho] at B;simp only [cOp] at B;split at B;case h_3=>cases B
  ·rename_i fs z G W;obtain ⟨v,k1,k2,k3⟩:=t9 (E:=E) W μ w;split at B;case h_2=>cases B
   rename_i pl f0;rw [ae] at B;obtain ⟨qs,hq,rfl⟩:=B;obtain ⟨u,H,rfl,rfl,rfl⟩:=fo (by simpa only [c7] using A);rw [ae] at H;obtain ⟨cs,a6,rfl⟩:=H;obtain ⟨c',j1,j2,j3,_⟩:=ua D hq a6 k2 k3;refine dv D hr hd (v:=.agg c') ?_ (by simp only [VRel]; exact ⟨_,rfl,j2,j3⟩);simp [execOp,ho,Instr.build,k1,run_underlying G,Array.mapM_eq_mapM_toList,zbu w f0];rw [j1]; rfl
  ·rename_i n e z G W;obtain ⟨v,k1,k2,k3⟩:=t9 (E:=E) W μ w;split at B;case h_2=>cases B
   rename_i n hn;rw [ae] at B;obtain ⟨qs,hq,rfl⟩:=B;obtain ⟨u,H,rfl,rfl,rfl⟩:=fo (by simpa only [c7] using A);rw [ae] at H;obtain ⟨cs,a6,rfl⟩:=H;obtain ⟨c',j1,j2,j3,_⟩:=ua D hq a6 k2 k3;refine dv D hr hd (v:=.agg c') ?_ (by simp only [VRel]; exact ⟨_,rfl,j2,j3⟩);simp [execOp,ho,Instr.build,k1,run_underlying G,ip hn];rw [j1]; rfl
 | buildSlice t len ps =>
  rw [ho] at B;simp only [cOp] at B;split at B;case h_2=>cases B
  rename_i e G;split at B;case h_2=>cases B
  rename_i n z hn W;split at B;case isFalse=>cases B
  rename_i hh;obtain ⟨hl,b7,h0⟩:=hh;rw [ae] at B;obtain ⟨qs,hq,rfl⟩:=B;obtain ⟨v,k1,k2,k3⟩:=t9 (E:=E) W μ w;simp only [c7] at A;split at A;case h_2=>cases A
  rename_i cs a6;cases A;obtain ⟨L,r2⟩:=zad (n:=len) k2 k3 b7 h0;have aa:h.size=μ.length:=hr.len.symm;rw [aa];by_cases ee:len*n=0
  ·-- no elements
   have e7:len=0:=by
    rcases Nat.mul_eq_zero.1 ee with h1 | h1
    ·exact h1
    ·omega
   subst e7;obtain ⟨c',j1,j2,j3,j4⟩:=ua (c:=#[]) D hq a6 (by simp [rep,VRels]) (by simp [rep]);have gv:=j2.length;refine lw D hr hd (.cells n cs) (.cells c' e (0,0)) ⟨w.heap.size,0,c'.size,n⟩ rfl (w1:={ w with heap:=w.heap.push (.cells c' e (0,0)) }) ?_ rfl rfl rfl rfl (rg j2 j3 rfl) (ol rfl (aj _) (fun k hk=>by cases hk; rfl) (by simp) (by decide));simp [execOp,ho,Instr.buildSlice,run_underlying G,ip hn,show Array.range 0 = #[] from rfl];rw [j1];simp [newRow]
  ·obtain ⟨c',j1,j2,j3,j4⟩:=ua D hq a6 L r2;refine lw D hr hd (.cells n cs) (.cells c' e (0,0)) ⟨w.heap.size,0,c'.size,n⟩ rfl (w1:={ w with heap:=w.heap.push (.cells c' e (0,0)) }) ?_ rfl rfl rfl rfl (rg j2 j3 rfl) (ol rfl (aj _) (fun k hk=>by cases hk; rfl) (by rw [j4]; simp) (by have:=Nat.le_mul_of_pos_right len h0; omega));have f1:¬ (16777216 < len*n):=by omega
   simp [execOp,ho,Instr.buildSlice,run_underlying G,ip hn,f1,ee,k1];rw [j1];simp [newRow]
 | load t y =>
  rw [ho] at B;simp only [cOp] at B;split at B;case h_2=>cases B
  rename_i n U hn J;cases B;simp only [c7] at A;split at A;case h_2=>cases A
  rename_i ad ay;obtain ⟨u,G,rfl,rfl,rfl⟩:=fo A;unfold loadAt at G;split at G;case h_2=>cases G
  rename_i cs o' a6;obtain ⟨b,p,c,e,fr,k1,k2,k3,k4⟩:=zj D hr J ay a6;obtain ⟨v,k5,k6⟩:=load_rel (P:=E.P) hn k2 k3 k4 G;exact dv D hr hd (by simp [execOp,ho,Instr.loadAt,Instr.sureAddr,k1,k5]) k6
 | store t y z =>
  rw [ho] at B;simp only [cOp] at B;split at B;case h_2=>cases B
  rename_i n U z' hn J W;cases loc with
  | true =>
   simp only [if_true] at B;cases B;simp only [c7] at A;split at A;case h_2=>cases A
   rename_i vs K;rw [ae] at A;obtain ⟨⟨v,h1⟩,I,A⟩:=A;cases A;obtain ⟨u1,u2,rfl,N,Q⟩:=evs2 K;cases u1 <;> simp only [ct,reduceCtorEq] at I
   rename_i q;cases q with
   | none=>cases I
   | some q =>
    obtain ⟨i,o'⟩:=q;simp only at I;split at I;case h_2=>cases I
    rename_i xs esz cs c5 hg;split at I;case isFalse=>cases I
    rename_i hh;cases I;obtain ⟨k2,k3⟩:=rj (cd D W Q) c5;have e8:(a.eval z).cells.size=n:=by have:=k2.length; simp at this; omega
    refine done_hstore D hr hd (cd D J N) k2 k3 hg hh.2.1 hh.2.2 fun adr cx=>?_
    simp [execOp,ho,Instr.storeAt,Instr.sureAddr,cx,storeVar,ip hn,e8]
  | false =>
  simp only [cg,if_false] at B;cases B;simp only [c7] at A;split at A;case h_2=>cases A
  rename_i ad xs ay c5;split at A;case isFalse=>cases A
  rename_i hl;rw [ae] at A;obtain ⟨⟨s1,h1⟩,f2,A⟩:=A;cases A;rw [ic] at c5;obtain ⟨u,G,c5⟩:=c5;obtain ⟨k2,k3⟩:=rj (cd D W G) c5;have e8:(a.eval z).cells.size=n:=by have:=k2.length; simp at this; omega
  refine done_store D hr hd J ay k2 k3 f2 fun adr cx=>?_
  simp [execOp,ho,Instr.storeAt,Instr.sureAddr,cx,storeVar,ip hn,e8]
 | nilCheck y =>
  rw [ho] at B;simp only [cOp] at B;rw [ae] at B;obtain ⟨U,J,rfl⟩:=B;simp only [c7] at A;split at A
  ·rename_i p hp;obtain ⟨u,G,rfl,rfl,rfl⟩:=fo A;cases G;have hv:=cd D J hp;have eh:=hv;obtain ⟨i,o'⟩:=p;simp only [VRel] at eh;obtain ⟨ad,e1,_⟩:=eh;rw [e1] at hv;exact dv D hr hd (by simp [execOp,ho,e1]) hv
  ·split at A
   ·rename_i t o' ay;split at A
    ·rename_i hv;cases A;obtain ⟨cs,hv⟩:=v9 hv;have e1:=xb D J ay hv;exact zbt D hr hd (by simp [execOp,ho,e1])
    ·cases A
   ·cases A
 | binOp op t y z yt =>
  rw [ho] at B;simp only [cOp,cBin] at B;split at B;case h_2=>cases B
  rename_i U z' J W;have hx:(execOp a.eval o)=(do pure (Next.value (← (do eqGuard op t y z (a.eval y) (a.eval z); binOp op t (a.eval y) (a.eval z):Sem Value))):Sem Next):=by simp [execOp,ho]
  have cy:∀ {r:AVal},ao = .bin op U z'→OpDone E lo ν.ds μ w a o.dst ((execOp a.eval o).run E.P w) x s' h':=by
   intro r al;subst al;simp only [c7] at A;split at A;case h_2=>cases A
   rename_i u1 u2 N Q;obtain ⟨u,G,rfl,rfl,rfl⟩:=fo A;have L:=cd D J N;have r2:=cd D W Q;cases u1 <;> (try (simp only [aBin] at G; cases G))
   case int k n =>
    cases u2 <;> (try (simp only [aBin] at G; cases G))
    case int k' n' =>
     simp only [VRel] at L r2;obtain ⟨v,j1,j2⟩:=run_bin_int (E:=E) (μ:=μ) (P:=E.P) (t:=t) w G;refine dv D hr hd (v:=v) ?_ j2;rw [hx];apply nh;rw [L,r2,Sem.run_bind,ub op t y z _ _ w (fun c=>by simp) (by simp),Result.andThen_ok];exact j1
   case str t1 =>
    cases u2 <;> (try (simp only [aBin] at G; cases G))
    case str t2 =>
     simp only [VRel] at L r2;obtain ⟨v,j1,j2⟩:=run_bin_str (E:=E) (μ:=μ) (P:=E.P) (t:=t) w G;refine dv D hr hd (v:=v) ?_ j2;rw [hx];apply nh;rw [L,r2,Sem.run_bind,ub op t y z _ _ w (fun c=>by simp) (by simp),Result.andThen_ok];exact j1
  have ei:∀ (d:TypeDesc) (b6:Bool),E.P.underlying t=some d→cEq d b6 U z'=some ao→op=(if b6 then .neq else .eql)→OpDone E lo ν.ds μ w a o.dst ((execOp a.eval o).run E.P w) x s' h':=by
   intro d b6 G al d1;subst d1
   have an:∀ k,kindIs k d→ao = .eqnil k b6 U z'→OpDone E lo ν.ds μ w a o.dst ((execOp a.eval o).run E.P w) x s' h':=by
    intro k hk al;subst al;simp only [c7] at A;split at A;case h_2=>cases A
    rename_i u1 u2 N Q;obtain ⟨u,H,rfl,rfl,rfl⟩:=fo A;rw [ae] at H;obtain ⟨b,hb,rfl⟩:=H;obtain ⟨j1,j2⟩:=eqNil_rel (P:=E.P) w (cd D J N) (cd D W Q) G hk hb;refine dv D hr hd (v:=.bool (if b6 then !b else b)) ?_ (by simp only [VRel]);rw [hx];exact nh (run_eq j1 y z j2)
   cases d <;> simp only [cEq] at al <;> (try cases al)
   ·-- two bools
    simp only [c7] at A;split at A;case h_2=>cases A
    rename_i b1 b2 N Q;obtain ⟨u,H,rfl,rfl,rfl⟩:=fo A;cases H;have L:=cd D J N;have r2:=cd D W Q;simp only [VRel] at L r2;refine dv D hr hd (v:=.bool (if b6 then !(b1 == b2) else (b1 == b2))) ?_ (by simp only [VRel,mz]);rw [hx,L,r2];exact nh (run_eq rfl y z (beq_rel G w))
   ·exact an .ptr ⟨_,rfl⟩ rfl
   ·exact an .slice ⟨_,rfl⟩ rfl
   ·exact an .map ⟨_,_,rfl⟩ rfl
   ·exact an .func ⟨_,_,_,rfl⟩ rfl
  have e5:∀ (d:TypeDesc),E.P.underlying t=some d→((∃ fs,d = .struct fs)∨∃ n e,d = .array n e) →
    (if E.P.eqGuardType E.P.depth t then none else
     match op,ckOf E.P 20 t with
     | .eql,some ks=>some (.ext (.pure (.eqcells false ks)) [U,z'])
     | .neq,some ks=>some (.ext (.pure (.eqcells true ks)) [U,z'])
     | _,_=>none)=some ao→OpDone E lo ν.ds μ w a o.dst ((execOp a.eval o).run E.P w) x s' h':=by
   intro d G f3 X;split at X
   ·cases X
   rename_i hg;have hg:E.P.eqGuardType E.P.depth t=false:=by simpa using hg
   have ax:∀ (b6:Bool) (ks:List CK),ckOf E.P 20 t=some ks→op=(if b6 then .neq else .eql)→ao = .ext (.pure (.eqcells b6 ks)) [U,z']→OpDone E lo ν.ds μ w a o.dst ((execOp a.eval o).run E.P w) x s' h':=by
    intro b6 ks d2 ej al;subst ej; subst al;simp only [c7] at A;split at A;case h_2=>cases A
    rename_i vs K;rw [ae] at A;obtain ⟨⟨v,h1⟩,I,A⟩:=A;cases A;obtain ⟨u1,u2,rfl,N,Q⟩:=evs2 K;obtain ⟨rfl,b,rfl,O⟩:=aggs_rel G f3 hg d2 (cd D J N) (cd D W Q) I y z (w:=w);refine dv D hr hd (v:=.bool b) ?_ (by simp only [VRel]);rw [hx];exact nh O
   split at X
   ·rename_i d2; cases X; exact ax false _ d2 rfl rfl
   ·rename_i d2; cases X; exact ax true _ d2 rfl rfl
   ·cases X
  split at B
  ·cases B; exact cy (r:=.nilFunc) rfl
  ·cases B; exact cy (r:=.nilFunc) rfl
  ·rename_i fs G;exact e5 _ G (.inl ⟨_,rfl⟩) B
  ·rename_i n e G;exact e5 _ G (.inr ⟨_,_,rfl⟩) B
  ·rename_i d _ _ _ _ G;split at B
   ·exact ei d false G B rfl
   ·exact ei d true G B rfl
   ·cases B
  ·cases B
 | unOp op t y =>
  rw [ho] at B;simp only [cOp] at B;rw [ae] at B;obtain ⟨U,J,rfl⟩:=B;simp only [c7] at A;split at A;case h_2=>cases A
  rename_i u1 N;obtain ⟨u,G,rfl,rfl,rfl⟩:=fo A;obtain ⟨v,j1,j2⟩:=un_rel (P:=E.P) w (cd D J N) G;refine dv D hr hd (v:=v) ?_ j2;rw [show execOp a.eval o=(do pure (Next.value (← Op.unary op (a.eval y))):Sem Next) by simp [execOp,ho]];exact nh j1
 | convert src dst y =>
  rw [ho] at B;simp only [cOp,cConv] at B;have hx:(execOp a.eval o)=(do pure (Next.value (← convert src dst (a.eval y))):Sem Next):=by simp [execOp,ho]
  split at B
  ·rename_i U k0 k J hs bb;cases B;simp only [c7] at A;split at A;case h_2=>cases A
   rename_i v hv;simp only [n8] at A;split at A;case h_2=>cases A
   rename_i k' n;obtain ⟨u,G,rfl,rfl,rfl⟩:=fo A;cases G;have L:=cd D J hv;simp only [VRel] at L;refine dv D hr hd (v:=.int k (k.wrap n)) ?_ (by simp only [VRel]);rw [hx,L];exact nh (by simp [convert,run_underlying hs,run_underlying bb,Conv.intToInt])
  ·rename_i U J hs bb;cases B;simp only [c7] at A;split at A;case h_2=>cases A
   rename_i v hv;simp only [n8] at A;split at A;case h_2=>cases A
   rename_i t;obtain ⟨u,G,rfl,rfl,rfl⟩:=fo A;cases G;have L:=cd D J hv;simp only [VRel] at L;refine dv D hr hd (v:=.string ⟨t.toArray⟩) ?_ (by simp only [VRel]);rw [hx,L];exact nh (by simp [convert,run_underlying hs,run_underlying bb])
  ·rename_i U e J hs bb;split at B;case isFalse=>cases B
   rename_i hb;cases B;rw [bc] at hb;have c4:E.room=0:=by simpa using hb.2
   have hb:=hb.1
   have he:E.P.underlying e=some (.int .u8):=by
    unfold isByte at hb;split at hb
    ·assumption
    ·cases hb
   simp only [c7] at A;split at A;case h_2=>cases A
   rename_i v hv;simp only [n8] at A;split at A;case h_2=>cases A
   rename_i t;split at A;case isFalse=>cases A
   rename_i ek;cases A;have L:=cd D J hv;simp only [VRel] at L;have O:=run_bytes_of_string (P:=E.P) w src dst e ⟨t.toArray⟩ hs bb he;rw [pk] at O;have hg:=le_grown w t.length 0 e;generalize hC:bytesRow ⟨t.toArray⟩ (grownCap w t.length 0 e)=C at O
   have dd:C.size=grownCap w t.length 0 e:=by rw [← hC]; simp [bytesRow,pk]; omega
   have aa:h.size=μ.length:=hr.len.symm;rw [aa];refine lw D hr hd _ (.cells C e (C.size,C.size+1)) ⟨w.heap.size,0,C.size,1⟩ rfl (w1:=w.drew.alloc (.cells C e (C.size,C.size+1))) (by rw [hx,L]; exact nh O) rfl rfl rfl rfl ?_ (ol rfl hg (fun k hk=>by cases hk) (by simp [dd]) (grownCap_le_maxLen w t.length 0 e ek));refine ⟨⟨w.heap.size,0,C.size,1⟩,C,e,(C.size,C.size+1),by simp,rfl,by simp,rfl,by simp [dd]; exact hg,fun k v' hk=>?_,fun _=>⟨Nat.le_succ _,fun off f4=>by simp only [c4] at f4; simp only; omega⟩⟩;simp only [bp,ae] at hk;obtain ⟨b,dl,rfl⟩:=hk;refine ⟨rfl,.int .u8 b.toNat,?_,by simp only [VRel]⟩;have f5:=ah dl;rw [← hC];simp only [bytesRow,dq];rw [s9 (by simpa using f5)];simp [dl]
  ·rename_i U e J hs bb;split at B;case isFalse=>cases B
   rename_i hb;cases B
   have he:E.P.underlying e=some (.int .u8):=by
    unfold isByte at hb;split at hb
    ·assumption
    ·cases hb
   simp only [c7] at A;split at A;case h_2=>cases A
   rename_i v hv;simp only [n8] at A;split at A;case h_2=>cases A
   rename_i ad n c;split at A;case h_2=>cases A
   rename_i t ht;obtain ⟨u,G,rfl,rfl,rfl⟩:=fo A;cases G;rw [ic] at ht;obtain ⟨cs,a6,ht⟩:=ht;have L:=cd D J hv;obtain ⟨l,n1,o1,o2,o3,o4,o5,o6⟩:=ri hr L a6;obtain ⟨ns,e2,e3⟩:=zh ht o1;simp only [alen] at o5;subst o5;refine dv D hr hd (v:=.string ⟨t.toArray⟩) ?_ (by simp only [VRel]);rw [hx];apply nh;cases ad with
   | none =>
    simp only [VRel] at L;obtain ⟨r2,_,r3⟩:=L;subst r2;have e7:l=[]:=bn (by simpa using o4);rw [e7] at e2;have f6:ns=[]:=by simpa using e2.symm
    rw [r3,run_convert_bytes_nil (P:=E.P) w src e hs he 0 0 dst bb,e3,f6];rfl
   | some io =>
    simp only [VRel] at L;obtain ⟨adr,cap,r2,_⟩:=L;have hl:=o6 E.P w rfl;rw [r2] at hl;simp only [Builtin.firstCells,Nat.mul_one] at hl;rw [e2] at hl;rw [r2,run_convert_bytes_string w src dst e (some adr) n1 cap hs he bb,run_bytesToString w adr n1 cap ns hl,zbs,e3];rfl
  ·rename_i U e e' J hs bb;split at B;case isFalse=>cases B
   rename_i hb;cases B;simp only [bc,beq_iff_eq] at hb;obtain ⟨⟨hb,f7⟩,c4⟩:=hb;subst f7
   have he:E.P.underlying e=some (.int .u8):=by
    unfold isByte at hb;split at hb
    ·assumption
    ·cases hb
   simp only [c7] at A;split at A;case h_2=>cases A
   rename_i v hv;simp only [n8] at A;split at A;case h_2=>cases A
   rename_i i o1 n c;split at A;case h_2=>cases A
   rename_i e1 cs hg;split at A;case isFalse=>cases A
   rename_i hh;cases A;exact mark_done D hr hd hs he c4 (cd D J hv) hg hh.1 hh.2 (by rw [hx,Sem.run_bind]; rfl)
  ·cases B
 | makeFunc fn fs cs =>
  rw [ho] at B;cases fn with
  | func f =>
   simp only [cOp] at B;split at B;case h_2=>cases B
   rename_i g f' c' hg f8 f9;cases B;simp only [c7] at A;split at A;case h_2=>cases A
   rename_i fv cv fd bx;obtain ⟨u,G,rfl,rfl,rfl⟩:=fo A;cases G;refine dv D hr hd (v:=.func (.func f) (fs.map a.eval) (cs.map a.eval)) (by simp [execOp,ho,Instr.makeFunc]) ?_;simp only [VRel];exact ⟨f,_,_,rfl,hg,by simpa using jr D f8 fd,by simpa using jr D f9 bx⟩
  | _=>simp [cOp] at B
 | makeSlice t l c =>
  rw [ho] at B;simp only [cOp] at B;split at B;case h_2=>cases B
  rename_i e G;split at B;case h_2=>cases B
  rename_i i z l' c' hi W hl hc;split at B;case isFalse=>cases B
  rename_i hh;obtain ⟨b7,h0⟩:=hh;cases B;simp only [c7] at A;split at A;case h_2=>cases A
  rename_i kl n kc m e9 bx;split at A;case isFalse=>cases A
  rename_i hb;obtain ⟨b1,b2,b3,b4,rfl,rfl⟩:=hb;cases A;have L:=cd D hl e9;have r2:=cd D hc bx;simp only [VRel] at L r2;obtain ⟨i',v,em,hv,fx⟩:=info_zero W;rw [hi] at em; cases em;obtain ⟨k2,k3⟩:=ug (E:=E) fx μ;obtain ⟨j1,j2⟩:=zad (n:=m.toNat) k2 k3 b7 h0;have aa:h.size=μ.length:=hr.len.symm;rw [aa];obtain ⟨n0,rfl⟩:=Int.eq_ofNat_of_zero_le b1;obtain ⟨m0,rfl⟩:=Int.eq_ofNat_of_zero_le (show 0≤m by omega);simp only [Int.toNat_natCast] at j1 j2 ⊢
  have fy:i.bytes*(m0:Int)≤281474976710656:=by rw [Int.mul_comm]; omega
  have et:=zbo (P:=E.P) t e i v G hi hv n0 m0 (by omega) fy (by omega) w;generalize hC:((Array.range (m0*i.size)).map fun j=>v.cells[j % v.cells.size]!)=C at j1 et;have dd:C.size=m0*i.size:=by rw [← hC]; simp
  refine lw D hr hd _ (.cells C e (0,0)) ⟨w.heap.size,0,C.size,i.size⟩ rfl (w1:={ w with heap:=w.heap.push (.cells C e (0,0)) }) ?_ rfl rfl rfl rfl (rg j1 j2 rfl) (ol (n:=n0) (cap:=m0) rfl (by omega) (fun k hk=>by cases hk; rfl) (by simp [dd]) (by omega));rw [show execOp a.eval o=(do pure (Next.value (← Instr.makeSlice t (a.eval l) (a.eval c))):Sem Next) by simp [execOp,ho],L,r2];exact nh et
 | slice t y l1 l2 l3 =>
  rw [ho] at B;have X:=B
  have al:∃ k U m1 m2 m3,ao = .slice k U m1 m2 m3:=by
   simp only [cOp] at X;split at X
   ·split at X
    ·cases X; exact ⟨_,_,_,_,_,rfl⟩
    ·rw [ae] at X; obtain ⟨_,_,rfl⟩:=X; exact ⟨_,_,_,_,_,rfl⟩
    ·rw [ae] at X; obtain ⟨_,_,rfl⟩:=X; exact ⟨_,_,_,_,_,rfl⟩
    ·cases X
   ·cases X
  obtain ⟨k,U,m1,m2,m3,al⟩:=al;have d1:cOp E false (.slice t y l1 l2 l3)=some ao:=by rw [← B]; rfl
  subst al;simp only [c7] at A;split at A;case h_2=>cases A
  rename_i lv hv mv e9 g0 g1;obtain ⟨u,G,rfl,rfl,rfl⟩:=fo A;obtain ⟨v,j1,j2⟩:=slice_rel D hr d1 rfl e9 g0 g1 G;refine dv D hr hd (v:=v) ?_ j2;rw [show execOp a.eval o=(do pure (Next.value (← Instr.sliceAt t (a.eval y) (l1.map a.eval) (l2.map a.eval) (l3.map a.eval))):Sem Next) by simp [execOp,ho]];exact nh j1
 | fieldAddr t y fi =>
  rw [ho] at B;simp only [cOp] at B;split at B;case h_2=>cases B
  rename_i fs U G J;split at B;case h_2=>cases B
  rename_i fl e0;split at B;case h_2=>cases B
  rename_i k hk;cases B;have W:=ip (P:=E.P) hk w
  have O:∀ b o',a.eval y = .pointer (some ⟨b,o',none⟩)→(execOp a.eval o).run E.P w = .ok (.value (.pointer (some ⟨b,o'+fl.offset,none⟩))) w:=by intro b o' g2;simp [execOp,ho,Instr.fieldAt,run_underlying G,e0,g2,Instr.sureAddr,fieldPlace,W,om]
  simp only [c7] at A;split at A
  ·rename_i i o' ay;obtain ⟨u,H,rfl,rfl,rfl⟩:=fo A;cases H;obtain ⟨adr,k1,xx,k2,k3⟩:=ue D J ay;cases xx with
   | none =>
    obtain ⟨b,o2,sp⟩:=adr;cases sp with
    | none =>
     refine dv D hr hd (O b o2 k1) ?_;simp only [VRel];exact ⟨_,rfl,none,k2,fun m hm=>by cases hm⟩
    | some sp =>
     refine dv D hr hd (v:=.pointer (some ((⟨b,o2,some sp⟩:Addr).add fl.offset))) ?_ ?_
     ·simp [execOp,ho,Instr.fieldAt,run_underlying G,e0,k1,Instr.sureAddr,fieldPlace,W]
     ·simp only [VRel];exact ⟨_,rfl,none,k2,fun m hm=>by cases hm⟩
   | some m =>
    have:=k3 m rfl; subst this;refine dv D hr hd (O _ _ k1) ?_;simp only [VRel];exact ⟨_,rfl,some m,k2,fun m' hm=>by cases hm; rw [lz]⟩
  ·rename_i t' o' ay;split at A
   ·rename_i hv;cases A;obtain ⟨cs,hv⟩:=v9 hv;exact zbt D hr hd (O _ _ (xb D J ay hv))
   ·cases A
  ·cases A
 | field t y fi =>
  rw [ho] at B;simp only [cOp] at B;split at B;case h_2=>cases B
  rename_i fs U G J;split at B;case h_2=>cases B
  rename_i fl e0;rw [ae] at B;obtain ⟨n,hn,rfl⟩:=B;simp only [c7] at A;split at A;case h_2=>cases A
  rename_i cs a6;obtain ⟨u,H,rfl,rfl,rfl⟩:=fo A;have L:=cd D J a6;simp only [VRel] at L;obtain ⟨c,r2,r3,r4⟩:=L;obtain ⟨v,j1,j2⟩:=qb (P:=E.P) w hn r3 r4 H;exact dv D hr hd (by simp [execOp,ho,Instr.field,run_underlying G,e0,r2,asAgg,j1]) j2
 | indexAddr t y z =>
  rw [ho] at B;simp only [cOp] at B;split at B
  ·rename_i e U z' G J W;rw [ae] at B;obtain ⟨n,hn,rfl⟩:=B;simp only [c7] at A;split at A;case h_2=>cases A
   rename_i b o' len cap iv d3 ac;obtain ⟨u,H,rfl,rfl,rfl⟩:=fo A;rw [ae] at H;obtain ⟨j,hj,rfl⟩:=H;obtain ⟨kd,i,L,r2,r3,r4⟩:=nw (cd D W ac) hj;have r5:=cd D J d3;simp only [VRel] at r5;obtain ⟨ad,cp,q1,q2,q3,q4,q5,q6⟩:=r5;obtain ⟨xx,q7,q8⟩:=q3 (by omega);refine dv D hr hd (v:=.pointer (some (ad.add (j*n)))) ?_ ?_
   ·have ea:i < (len:Int):=r3;simp [execOp,ho,Instr.indexAt,L,asIntOf,run_underlying G,q1,r2,ea,ip hn,r4]
   ·simp only [VRel];exact ⟨_,rfl,xx,q7,fun m hm=>by rw [q8 m hm,om,lz]⟩
  ·rename_i len e U z' G J W;rw [ae] at B;obtain ⟨n,hn,rfl⟩:=B
   have O:∀ ad kd i,a.eval y = .pointer (some ad)→a.eval z = .int kd i→0≤i→i < (len:Int) →
     (execOp a.eval o).run E.P w = .ok (.value (.pointer (some (ad.add (i.toNat*n))))) w:=by
    intro ad kd i h1 h2 h3 h4;simp [execOp,ho,Instr.indexAt,h2,asIntOf,run_underlying G,h1,Instr.sureAddr,h3,h4,ip hn]
   simp only [c7] at A;split at A
   ·rename_i b o' iv ay ac;obtain ⟨u,H,rfl,rfl,rfl⟩:=fo A;rw [ae] at H;obtain ⟨j,hj,rfl⟩:=H;obtain ⟨kd,i,L,r2,r3,r4⟩:=nw (cd D W ac) hj;obtain ⟨adr,k1,xx,k2,k3⟩:=ue D J ay;refine dv D hr hd (O adr kd i k1 L r2 r3) ?_;simp only [VRel];exact ⟨_,rfl,xx,k2,fun m hm=>by rw [k3 m hm,om,lz,r4]⟩
   ·rename_i t' o' iv ay ac;split at A;case isFalse=>cases A
    rename_i hv;rw [ae] at A;obtain ⟨j,hj,A⟩:=A;cases A;obtain ⟨kd,i,L,r2,r3,r4⟩:=nw (cd D W ac) hj;obtain ⟨cs,hv⟩:=v9 hv;have k1:=xb D J ay hv;have:=O _ kd i k1 L r2 r3;rw [om,← r4] at this;exact zbt D hr hd this
   ·cases A
  ·cases B
 | index t y z =>
  rw [ho] at B;simp only [cOp] at B;split at B
  ·rename_i U z' G J W;cases B;simp only [c7] at A;split at A;case h_2=>cases A
   rename_i t' iv d3 ac;obtain ⟨u,H,rfl,rfl,rfl⟩:=fo A;rw [ic] at H;obtain ⟨j,hj,H⟩:=H;rw [ae] at H;obtain ⟨b,hb,rfl⟩:=H;obtain ⟨kd,i,L,r2,r3,r4⟩:=nw (cd D W ac) hj;have r5:=cd D J d3;simp only [VRel] at r5;refine dv D hr hd (v:=.int .u8 b.toNat) ?_ (by simp only [VRel]);have dl:(⟨t'.toArray⟩:ByteArray)[i.toNat]? = some b:=by rw [string_get,← r4]; exact hb
   simp [execOp,ho,Instr.index,L,asIntOf,run_underlying G,r5,r2,dl]
  ·rename_i len e U z' G J W;split at B;case h_2=>cases B
   rename_i n k hn hk;cases B;simp only [c7] at A;split at A;case h_2=>cases A
   rename_i cs iv d3 ac;obtain ⟨u,H,rfl,rfl,rfl⟩:=fo A;rw [ic] at H;obtain ⟨j,hj,H⟩:=H;obtain ⟨kd,i,L,r2,r3,r4⟩:=nw (cd D W ac) hj;have r5:=cd D J d3;simp only [VRel] at r5;obtain ⟨c,r6,r7,r8⟩:=r5;obtain ⟨v,j1,j2⟩:=qb (P:=E.P) w hk r7 r8 H;rw [r4] at j1;have ea:i < (len:Int):=r3;exact dv D hr hd (v:=v) (by simp [execOp,ho,Instr.index,L,asIntOf,run_underlying G,r6,r2,ea,ip hn,j1]) j2
  ·cases B
 | extract y i =>
  rw [ho] at B;simp only [cOp] at B;rw [ae] at B;obtain ⟨U,J,rfl⟩:=B;simp only [c7] at A;split at A;case h_2=>cases A
  rename_i vs K;obtain ⟨u,G,rfl,rfl,rfl⟩:=fo A;have L:=cd D J K;simp only [VRel] at L;obtain ⟨g3,r2,r3⟩:=L;obtain ⟨v,r4,r5⟩:=r3.get G;have g4:g3[i]? = some v:=by simpa using r4
  exact dv D hr hd (v:=v) (by simp [execOp,ho,Instr.extract,r2,g4]) r5
 | call c =>
  rw [ho] at B;simp only [cOp,cCall] at B;split at B
  ·rename_i f d4;split at B
   ·cases B; exact absurd rfl (ez _ _)
   ·rename_i aZ hg g5;rw [ae] at B;obtain ⟨k,hk,rfl⟩:=B;exact prim_done D hr hd ho d4 g5 hk A
   ·cases B
  ·split at B
   ·cases B; exact absurd rfl (ey _ _)
   ·cases B
  ·rename_i b d4
   have hx:∃ bs,∀ (ts:List TypeId) (l:List Operand),c.argTypes.toList=ts→c.args.toList=l→(execOp a.eval o).run E.P w=(builtin b ts.toArray o.type bs (l.map a.eval).toArray).run E.P w:=by
    refine ⟨c.args.map fun | .const _=>true | _=>false,fun ts l g6 hl=>?_⟩;have h1:c.args.map a.eval=(l.map a.eval).toArray:=by subst hl; apply Array.ext'; simp
    have h2:c.argTypes=ts.toArray:=by rw [← g6]
    simp only [execOp,ho,resolve,d4,h1,← h2];rfl
   obtain ⟨bs,hx⟩:=hx;split at B
   ·-- len
    rename_i t y b5 a0;have hx:=hx _ _ b5 a0
    have ax:∀ {u:AVal} {v:Value},(Builtin.len_ #[t] o.type #[a.eval y]).run E.P w = .ok v w→VRel E μ u v→OpDone E lo ν.ds μ w a o.dst ((execOp a.eval o).run E.P w) (.val u) s h:=by intro u v h1 h2;refine dv D hr hd (v:=v) ?_ h2;rw [hx];exact nh h1
    split at B
    ·rename_i G;rw [ae] at B;obtain ⟨U,J,rfl⟩:=B;simp only [c7] at A;split at A;case h_2=>cases A
     rename_i v hv;obtain ⟨u,H,rfl,rfl,rfl⟩:=fo A;simp only [evLen] at H;split at H;case h_2=>cases H
     cases H;have L:=cd D J hv;simp only [VRel] at L;exact ax (by simp [Builtin.len_,run_underlying G,L,pk]; rfl) (by simp only [VRel,goInt])
    ·rename_i G;rw [ae] at B;obtain ⟨U,J,rfl⟩:=B;simp only [c7] at A;split at A;case h_2=>cases A
     rename_i v hv;obtain ⟨u,H,rfl,rfl,rfl⟩:=fo A;simp only [evLen] at H;split at H;case h_2=>cases H
     cases H;rename_i ad n cp;have L:=cd D J hv;cases ad with
     | none =>
      simp only [VRel] at L;obtain ⟨r2,_,r3⟩:=L;subst r2;exact ax (v:=goInt 0) (by simp [Builtin.len_,run_underlying G,r3]) (by simp only [VRel,goInt]; rfl)
     | some p =>
      simp only [VRel] at L;obtain ⟨adr,cap,r2,_⟩:=L;exact ax (by simp [Builtin.len_,run_underlying G,r2]; rfl) (by simp only [VRel,goInt])
    ·rename_i G;rw [ae] at B;obtain ⟨U,J,rfl⟩:=B;simp only [c7] at A;split at A;case h_2=>cases A
     rename_i v hv;obtain ⟨u,H,rfl,rfl,rfl⟩:=fo A;simp only [evLen] at H;split at H
     ·cases H;have L:=cd D J hv;simp only [VRel] at L;exact ax (v:=goInt 0) (by simp [Builtin.len_,run_underlying G,L]) (by simp only [VRel,goInt])
     ·rename_i i;split at H
      ·rename_i es ck hg;cases H;have L:=cd D J hv;simp only [VRel] at L;obtain ⟨b',xx,r2,r3,r4⟩:=L;obtain ⟨m,es',q1,q2,q3,_⟩:=hr.obj i _ hg;rw [r3] at q1; cases q1;have:=r4 m rfl; subst this;refine ax (v:=.int .i64 es'.size) ?_ (by simp only [VRel,q3]);have g7:(getObj m.blk).run E.P w = .ok (.map es' ck) w:=by simp [getObj,Sem.run,q2]
       simp [Builtin.len_,run_underlying G,r2,g7,goInt]
      ·cases H
     ·cases H
    ·cases B
   ·-- append
    rename_i t u y z b5 a0;have hx:=hx _ _ b5 a0
    have ax:∀ (e:TypeId) (i:TypeInfo) (zv:Value) (U z':Opd),E.P.underlying t=some (.slice e)→((∃ e',E.P.underlying u=some (.slice e'))∨E.P.underlying u=some .string)→gq E y=some U→gq E z=some z' →
      E.P.info? e=some i→i.zero=some zv→zv.cells.size=i.size→ao = .append i.size i.bytes U z'→OpDone E lo ν.ds μ w a o.dst ((execOp a.eval o).run E.P w) x s' h':=by
     intro e i zv U z' ht G J W hi ac d5 al;subst al;simp only [c7] at A;split at A;case h_2=>cases A
     rename_i u1 u2 N Q;rw [ae] at A;obtain ⟨⟨v,h1⟩,I,A⟩:=A;cases A;have L:=cd D J N;have r2:=cd D W Q;exact append_done (ty:=o.type) D hr hd ht G hi ac d5 L r2 I (by rw [hx]; simp only [builtin]; rw [Sem.run_bind]; rfl)
    split at B
    ·rename_i e e' U z' ht G J W;split at B;case h_2=>cases B
     rename_i i hi;split at B;case h_2=>cases B
     rename_i zv ac;split at B;case isFalse=>cases B
     rename_i d5;cases B;exact ax e i zv U z' ht (.inl ⟨_,G⟩) J W hi ac d5 rfl
    ·rename_i e U z' ht G J W;split at B;case h_2=>cases B
     rename_i i hi;split at B;case h_2=>cases B
     rename_i zv ac;split at B;case isFalse=>cases B
     rename_i d5;cases B;exact ax e i zv U z' ht (.inr G) J W hi ac d5 rfl
    ·rename_i e kq U z' ht G J W;split at B;case h_2=>cases B
     rename_i i zz hi gf;split at B;case isFalse=>cases B
     rename_i b7;cases B;simp only [c7] at A;split at A;case h_2=>cases A
     rename_i vs K;rw [ae] at A;obtain ⟨⟨v,h1⟩,I,A⟩:=A;cases A;obtain ⟨u1,u2,rfl,N,Q⟩:=evs2 K;exact appz_done (ty:=o.type) D hr hd ht G hi gf b7.1 b7.2 (cd D J N) (cd D W Q) I (by rw [hx]; simp only [builtin]; rw [Sem.run_bind]; rfl)
    ·cases B
   ·-- cap
    rename_i t y b5 a0;have hx:=hx _ _ b5 a0;split at B;case h_2=>cases B
    rename_i e G;rw [ae] at B;obtain ⟨U,J,rfl⟩:=B;simp only [c7,evs] at A;cases hv:U.ev s with
    | none=>rw [hv] at A; cases A
    | some v =>
     rw [hv] at A;simp only at A;rw [ae] at A;obtain ⟨⟨u,h1⟩,I,A⟩:=A;cases A;have L:=cd D J hv;simp only [ct,evPure] at I;rw [ae] at I;obtain ⟨u',I,H⟩:=I;cases H;cases v <;> simp only [evCap,reduceCtorEq] at I
     rename_i ad n cp;cases cp with
     | none=>cases I
     | some k =>
      simp only at I;cases I
      have:∃ b n',a.eval y = .slice b n' k:=by
       cases ad with
       | none=>simp only [VRel] at L; obtain ⟨_,e1,e2⟩:=L; cases e1; exact ⟨_,_,e2⟩
       | some p=>simp only [VRel] at L; obtain ⟨b,cap,e1,_,_,e2,_⟩:=L; rw [e2 k rfl] at e1; exact ⟨_,_,e1⟩
      obtain ⟨b,n',e1⟩:=this;refine dv D hr hd (v:=.int .i64 k) ?_ (by simp only [VRel]);rw [hx];refine nh (S:=Builtin.cap_ #[t] o.type #[a.eval y]) ?_;simp [Builtin.cap_,run_underlying G,e1,goInt]
   ·-- copy
    rename_i t u y z b5 a0;have hx:=hx _ _ b5 a0;split at B;case h_2=>cases B
    rename_i e e' U z' ht G J W;rw [ae] at B;obtain ⟨n,hn,rfl⟩:=B;simp only [c7] at A;split at A;case h_2=>cases A
    rename_i vs K;rw [ae] at A;obtain ⟨⟨v,h1⟩,I,A⟩:=A;cases A;obtain ⟨u1,u2,rfl,N,Q⟩:=evs2 K;exact copy_done (ty:=o.type) D hr hd ht hn (cd D J N) (cd D W Q) I (by rw [hx]; simp only [builtin]; rw [Sem.run_bind]; rfl)
   ·-- clear
    rename_i t y b5 a0;have hx:=hx _ _ b5 a0;split at B;case h_2=>cases B
    rename_i e ht;split at B;case h_2=>cases B
    rename_i n z U hn W J;split at B;case isFalse=>cases B
    rename_i b7;cases B;simp only [c7] at A;split at A;case h_2=>cases A
    rename_i vs K;rw [ae] at A;obtain ⟨⟨v,h1⟩,I,A⟩:=A;cases A;simp only [evs] at K;split at K;case h_2=>cases K
    rename_i u us N d6;cases d6; cases K;exact clear_done (ty:=o.type) D hr hd ht W b7.1 b7.2 (cd D J N) I (by rw [hx]; simp only [builtin]; rw [Sem.run_bind]; rfl)
   ·-- delete
    rename_i t ts y z b5 a0;have hx:=hx _ _ b5 a0;split at B;case h_2=>cases B
    rename_i k e G;split at B;case h_2=>cases B
    rename_i kn U z' hk J W;cases B;simp only [c7] at A;split at A;case h_2=>cases A
    rename_i vs K;rw [ae] at A;obtain ⟨⟨v,h1⟩,I,A⟩:=A;cases A;obtain ⟨u1,u2,rfl,N,Q⟩:=evs2 K;exact delete_done D hr hd (ts:=(t :: ts).toArray) (ty:=o.type) rfl G hk (cd D J N) (cd D W Q) I (by rw [hx]; simp only [builtin]; rw [Sem.run_bind]; rfl)
   ·-- min
    rename_i ts ys;rw [ae] at B;obtain ⟨gi,eb,rfl⟩:=B;have hx:=hx _ _ rfl rfl;simp only [c7] at A;split at A;case h_2=>cases A
    rename_i v0 vs K;obtain ⟨u,G,rfl,rfl,rfl⟩:=fo A;have L:=jr D eb K;simp only [VRels] at L;obtain ⟨x0,xs,e1,r2,r3⟩:=L;obtain ⟨v,j1,j2⟩:=zbv (P:=E.P) w r2 r3 G;refine dv D hr hd (v:=v) ?_ j2;rw [hx];refine nh (S:=Builtin.min_ c.argTypes o.type (c.args.toList.map a.eval).toArray) ?_;simp only [Builtin.min_,e1];simpa using j1
   ·rename_i ts ys;rw [ae] at B;obtain ⟨gi,eb,rfl⟩:=B;have hx:=hx _ _ rfl rfl;simp only [c7] at A;split at A;case h_2=>cases A
    rename_i v0 vs K;obtain ⟨u,G,rfl,rfl,rfl⟩:=fo A;have L:=jr D eb K;simp only [VRels] at L;obtain ⟨x0,xs,e1,r2,r3⟩:=L;obtain ⟨v,j1,j2⟩:=zbv (P:=E.P) w r2 r3 G;refine dv D hr hd (v:=v) ?_ j2;rw [hx];refine nh (S:=Builtin.max_ c.argTypes o.type (c.args.toList.map a.eval).toArray) ?_;simp only [Builtin.max_,e1];simpa using j1
   ·cases B
  ·cases B
 | makeMap t hint =>
  have ax:ao = .ext .mkmap []→(hint=none∨∃ k n,hint=some (.const (.int k n))∧∃ a b,E.P.underlying t=some (.map a b))→OpDone E lo ν.ds μ w a o.dst ((execOp a.eval o).run E.P w) x s' h':=by
   intro al hh;subst al;simp only [c7,evs,ct,b8] at A;cases A;have aa:h.size=μ.length:=hr.len.symm;rw [aa];refine lw D hr hd (.map [] 0) (.map #[] 0) ⟨w.heap.size,0,0,0⟩ rfl (w1:={ w with heap:=w.heap.push (.map #[] 0) }) (v:=.map (some w.heap.size)) ?_ rfl rfl rfl rfl ?_ ?_
   ·rcases hh with rfl | ⟨k,n,rfl,p,q,G⟩
    ·simp [execOp,ho,Instr.makeMap]
    ·simp [execOp,ho,Instr.makeMap,run_underlying G,asInt,asIntOf,Act.eval]
   ·exact ⟨⟨w.heap.size,0,0,0⟩,#[],by rw [aw (aj _)]; simp,by simp,rfl,by simp⟩
   ·simp only [VRel];exact ⟨w.heap.size,some ⟨w.heap.size,0,0,0⟩,rfl,by rw [aw (aj _)]; simp,fun m hm=>by cases hm; rfl⟩
  rw [ho] at B;cases hint with
  | none=>simp only [cOp] at B; cases B; exact ax rfl (.inl rfl)
  | some y =>
   cases y with
   | const v =>
    cases v with
    | int k n =>
     simp only [cOp] at B;split at B
     ·rename_i G;cases B;exact ax rfl (.inr ⟨_,_,rfl,_,_,G⟩)
     ·cases B
    | _=>simp [cOp] at B
   | _=>simp [cOp] at B
 | lookup t y z ok =>
  rw [ho] at B;simp only [cOp] at B;split at B;case h_2=>cases B
  rename_i k e G;split at B;case h_2=>cases B
  rename_i kn zv U z' hk ac J W;cases B;simp only [c7] at A;split at A;case h_2=>cases A
  rename_i vs K;rw [ae] at A;obtain ⟨⟨v,h1⟩,I,A⟩:=A;cases A;obtain ⟨u1,u2,rfl,N,Q⟩:=evs2 K;obtain ⟨rfl,r,j1,j2⟩:=lookup_rel hr G hk ac (cd D J N) (cd D W Q) I;refine dv D hr hd (v:=r) ?_ j2;simp only [execOp,ho];exact nh j1
 | mapUpdate t m y z =>
  rw [ho] at B;simp only [cOp] at B;split at B;case h_2=>cases B
  rename_i k e G;split at B;case h_2=>cases B
  rename_i kn m' U z' hk hm J W;cases B;simp only [c7] at A;split at A;case h_2=>cases A
  rename_i vs K;rw [ae] at A;obtain ⟨⟨v,h1⟩,I,A⟩:=A;cases A;obtain ⟨u1,u2,u3,rfl,N,Q,d8⟩:=evs3 K;refine zg D hr hd G hk (cd D hm N) (cd D J Q) (cd D W d8) I ?_;simp only [execOp,ho];rw [Sem.run_bind]; rfl
 | insert t m y z =>
  rw [ho] at B;simp only [cOp] at B;split at B;case h_2=>cases B
  rename_i k e G;split at B;case h_2=>cases B
  rename_i kn m' U z' hk hm J W;cases B;simp only [c7] at A;split at A;case h_2=>cases A
  rename_i vs K;rw [ae] at A;obtain ⟨⟨v,h1⟩,I,A⟩:=A;cases A;obtain ⟨u1,u2,u3,rfl,N,Q,d8⟩:=evs3 K;refine zg D hr hd G hk (cd D hm N) (cd D J Q) (cd D W d8) I ?_;simp only [execOp,ho];rw [Sem.run_bind]; rfl
 | mapEntry t m y =>
  rw [ho] at B;simp only [cOp] at B;split at B;case h_2=>cases B
  rename_i k e G;split at B;case h_2=>cases B
  rename_i kn zv m' U hk ac hm J;cases B;simp only [c7] at A;split at A;case h_2=>cases A
  rename_i vs K;rw [ae] at A;obtain ⟨⟨v,h1⟩,I,A⟩:=A;cases A;obtain ⟨u1,u2,rfl,N,Q⟩:=evs2 K;refine mapentry_done D hr hd G hk ac (cd D hm N) (cd D J Q) I ?_;simp only [execOp,ho];rw [Sem.run_bind]; rfl
 | entryStore t m y z =>
  rw [ho] at B;simp only [cOp] at B;split at B;case h_2=>cases B
  rename_i m' U z' hm J W;cases B;simp only [c7] at A;split at A;case h_2=>cases A
  rename_i vs K;rw [ae] at A;obtain ⟨⟨v,h1⟩,I,A⟩:=A;cases A;obtain ⟨u1,u2,u3,rfl,N,Q,d8⟩:=evs3 K;refine zy (t:=t) D hr hd (cd D hm N) (cd D J Q) (cd D W d8) I ?_;simp only [execOp,ho];rw [Sem.run_bind]; rfl
 | range t y =>
  rw [ho] at B;simp only [cOp] at B;split at B;case h_2=>cases B
  rename_i k e G;rw [ae] at B;obtain ⟨U,J,rfl⟩:=B;simp only [c7] at A;split at A;case h_2=>cases A
  rename_i vs K;rw [ae] at A;obtain ⟨⟨v,h1⟩,I,A⟩:=A;cases A;simp only [evs] at K;split at K;case h_2=>cases K
  rename_i u us N d6;cases d6; cases K;have aa:h.size=μ.length:=hr.len.symm;have d9:=cd D J N;unfold ct at I;split at I;case h_1=>simp_all
  case h_2 =>
   rename_i e1 e2;cases e2;cases I;simp only [VRel] at d9;rw [aa];refine lw D hr hd (.mapIter none 0 [] 0) (.mapIter none 0 #[] 0) ⟨w.heap.size,0,0,0⟩ rfl (w1:={ w with heap:=w.heap.push (.mapIter none 0 #[] 0) }) (v:=.pointer (some ⟨w.heap.size,0,none⟩)) ?_ rfl rfl rfl rfl ?_ ?_
   ·simp only [execOp,ho];refine nh ?_;rw [d9];simp [Instr.range,run_underlying G,newObj,Sem.run]
   ·exact ⟨⟨w.heap.size,0,0,0⟩,none,⟨by rw [aw (aj _)]; simp,rfl⟩,by simp,by simp [VRel]⟩
   ·simp only [VRel,ARel];exact ⟨_,rfl,some ⟨w.heap.size,0,0,0⟩,by rw [aw (aj _)]; simp,fun m hm=>by cases hm; rfl⟩
  case h_3 =>
   rename_i r e1 e2;cases e2;split at I;case h_2=>cases I
   rename_i es clock gs;cases I;obtain ⟨m,es',q1,q2,q3,q4⟩:=hr.obj _ _ gs;have e6:=d9;simp only [VRel] at d9;obtain ⟨bm,xo,L,r2,r3⟩:=d9;rw [q1] at r2; cases r2;have r3:=r3 m rfl;subst r3;rw [L] at e6;rw [aa];refine lw D hr hd (.mapIter (some r) clock [] clock) (.mapIter (some m.blk) clock #[] clock) ⟨w.heap.size,0,0,0⟩ rfl (w1:={ w with heap:=w.heap.push (.mapIter (some m.blk) clock #[] clock) }) (v:=.pointer (some ⟨w.heap.size,0,none⟩)) ?_ rfl rfl rfl rfl ?_ ?_
   ·simp only [execOp,ho];refine nh ?_;rw [L];simp [Instr.range,run_underlying G,MapKept.run_getObj_map q2,newObj,Sem.run]
   ·exact ⟨⟨w.heap.size,0,0,0⟩,some m.blk,⟨by rw [aw (aj _)]; simp,rfl⟩,by simp,e6.later (g9 μ _)⟩
   ·simp only [VRel,ARel];exact ⟨_,rfl,some ⟨w.heap.size,0,0,0⟩,by rw [aw (aj _)]; simp,fun m hm=>by cases hm; rfl⟩
  all_goals simp_all
 | entry y =>
  rw [ho] at B;simp only [cOp] at B;rw [ae] at B;obtain ⟨U,J,rfl⟩:=B;simp only [c7] at A;split at A;case h_2=>cases A
  rename_i vs K;rw [ae] at A;obtain ⟨⟨v,h1⟩,I,A⟩:=A;cases A;simp only [evs] at K;split at K;case h_2=>cases K
  rename_i u us N d6;cases d6; cases K;exact entry_done D hr hd (cd D J N) I (by simp only [execOp,ho]; rw [Sem.run_bind]; rfl)
 | _=>rw [ho] at B; simp [cOp] at B
end
end Go.Abs

namespace Go.Abs
structure Evol (h h':Heap):Prop where
 size:h.size≤h'.size
 base:h'.base=h.base
 wmin:h'.wmin≤h.wmin
 objs:∀ i,i < h.size→i < h'.wmin→h'.objs[i]? = h.objs[i]?
theorem Evol.refl (h:Heap):Evol h h:=⟨aj _,rfl,aj _,fun _ _ _=>rfl⟩
theorem Evol.trans {a b c:Heap} (h:Evol a b) (k:Evol b c):Evol a c :=
 ⟨de h.size k.size,k.base.trans h.base,de k.wmin h.wmin,fun i hi hw =>
  (k.objs i (fg hi h.size) hw).trans (h.objs i hi (fg hw k.wmin))⟩
theorem Evol.push (h:Heap) (o:AObj):Evol h (h.push o) :=
 ⟨by simp [Heap.push,Heap.size],rfl,aj _,fun i hi _=>by simp only [Heap.push]; rw [ag hi]⟩
theorem Evol.put (h:Heap) (i:Nat) (o:AObj):Evol h (h.put i o) :=
 ⟨by simp [Heap.put,Heap.size],rfl,cr _ _,fun j _ hw=>by simp only [Heap.put] at hw ⊢;rw [aq];omega⟩
theorem Evol.puts (h:Heap):∀ (ps:List (Nat × AObj)) (xs:List AObj),Evol h (h.puts ps xs):=by
 have h1:∀ (xs:List AObj) (g:Heap),Evol g (xs.foldl Heap.push g):=fun xs=>by
  induction xs with
  | nil=>exact fun g=>Evol.refl g
  | cons x xs ih=>exact fun g=>(Evol.push g x).trans (ih _)
 have h2:∀ (ps:List (Nat × AObj)) (g:Heap),Evol g (ps.foldl (fun h p=>h.put p.1 p.2) g):=fun ps=>by
  induction ps with
  | nil=>exact fun g=>Evol.refl g
  | cons x xs ih=>exact fun g=>(Evol.put g x.1 x.2).trans (ih _)
 exact fun ps xs=>(h2 ps h).trans (h1 xs _)
def CallEvol (call:CallSem):Prop:=∀ g args h v h',call g args h=some (v,h')→Evol h h'
theorem ok1_evol {s:Slots} {h:Heap} {v:Option AVal} {x:Slot} {d:Slots} {h':Heap} (e:ok1 s h v=some (x,d,h')):Evol h h':=by unfold ok1 at e;rw [ae] at e;obtain ⟨u,_,e⟩:=e;cases e;exact Evol.refl _
theorem store_evol {s:Slots} {h:Heap} {d:AAddr} {xs:List AVal} {j:Slots} {h':Heap} (e:storeAt s h d xs=some (j,h')):Evol h h':=by
 unfold storeAt at e;split at e
 ·split at e
  ·split at e
   ·cases e; exact Evol.put _ _ _
   ·cases e
  ·cases e
 ·split at e
  ·split at e
   ·cases e; exact Evol.refl _
   ·cases e
  ·cases e
theorem append_evol {esz bytes:Nat} {h:Heap} {x y v:AVal} {h':Heap} (e:d7 esz bytes h x y=some (v,h')):Evol h h':=by
 unfold d7 at e;split at e
 ·split at e
  ·unfold aApp at e;split at e
   ·cases e; exact Evol.refl _
   ·split at e
    ·split at e
     ·cases e; exact Evol.push _ _
     ·split at e
      ·cases e; exact Evol.push _ _
      ·split at e
       ·cases e; exact (Evol.put _ _ _).trans (Evol.push _ _)
       ·cases e
    ·cases e
  ·cases e
 ·cases e
theorem ext_evol {k:ExtOp} {vs:List AVal} {h:Heap} {v:AVal} {h':Heap} (e:ct k vs h=some (v,h')):Evol h h':=by
 unfold ct at e;repeat' split at e
 all_goals first
  | (cases e; done)
  | (cases e; exact Evol.refl _)
  | (cases e; exact Evol.push _ _)
  | (cases e; exact Evol.put _ _ _)
  | (rw [ae] at e; obtain ⟨_,_,e⟩:=e; cases e; exact Evol.refl _)
theorem op_evol {call:CallSem} (hc:CallEvol call) {d:Nat} {o:AOp} {s:Slots} {h:Heap} {x:Slot} {j:Slots} {h':Heap} (e:c7 call d o s h=some (x,j,h')):Evol h h':=by
 cases o with
 | call f args =>
  simp only [c7] at e;split at e
  ·rw [ae] at e;obtain ⟨⟨v,h1⟩,h2,e⟩:=e;cases e;exact hc _ _ _ _ _ h2
  ·split at e
   ·rw [ae] at e;obtain ⟨⟨v,h1⟩,h2,e⟩:=e;cases e;exact hc _ _ _ _ _ h2
   ·cases e
  ·cases e
 | ext k xs =>
  simp only [c7] at e;split at e
  ·rw [ae] at e;obtain ⟨⟨v,h1⟩,h2,e⟩:=e;cases e;exact ext_evol h2
  ·cases e
 | callg g args =>
  simp only [c7] at e;split at e
  ·rw [ae] at e;obtain ⟨⟨v,h1⟩,h2,e⟩:=e;cases e;exact hc _ _ _ _ _ h2
  ·cases e
 | append es b y z =>
  simp only [c7] at e;split at e
  ·rw [ae] at e;obtain ⟨⟨v,h1⟩,h2,e⟩:=e;cases e;exact append_evol h2
  ·cases e
 | store n y z =>
  simp only [c7] at e;split at e
  ·split at e
   ·rw [ae] at e;obtain ⟨⟨v,h1⟩,h2,e⟩:=e;cases e;exact store_evol h2
   ·cases e
  ·cases e
 | conv k y =>
  simp only [c7] at e;split at e
  ·unfold n8 at e;repeat' split at e
   all_goals first
    | (cases e; done)
    | exact ok1_evol e
    | (cases e; exact Evol.push _ _)
    | (cases e; exact Evol.put _ _ _)
  ·cases e
 | _ =>
  simp only [c7] at e;repeat' split at e
  all_goals first
   | (cases e; done)
   | exact ok1_evol e
   | (cases e; exact Evol.push _ _)
   | (cases e; exact Evol.refl _)
   | (rw [ae] at e; obtain ⟨_,_,e⟩:=e; cases e; exact Evol.refl _)
theorem me {call:CallSem} (hc:CallEvol call) {o:AOper} {s:Slots} {h:Heap} {d:Slots} {h':Heap} (e:dy call o s h=some (d,h')):Evol h h':=by
 have run:evRun call o s h=some (d,h')→Evol h h':=by
  intro e;unfold evRun at e;split at e
  ·rename_i x s1 h1 h2;cases e;exact op_evol hc h2
  ·cases e
 unfold dy at e;split at e
 ·exact run e
 ·split at e
  ·split at e
   ·exact run e
   ·cases e; exact Evol.refl _
  ·cases e; exact Evol.refl _
  ·cases e
theorem ops_evol {call:CallSem} (hc:CallEvol call):∀ {l:List AOper} {s:Slots} {h:Heap} {d:Slots} {h':Heap},evOps call l s h=some (d,h')→Evol h h'
 | [],_,_,_,_,e=>by simp only [evOps] at e; cases e; exact Evol.refl _
 | o :: l,s,h,d,h',e=>by
  simp only [evOps] at e;split at e
  ·rename_i s1 h1 h2;exact (me hc h2).trans (ops_evol hc e)
  ·cases e
theorem zbw {call:CallSem}:∀ {l:List AOper} {s:Slots} {h:Heap} {d:Slots} {h':Heap},evQuiet call l s h=some (d,h')→h'=h
 | [],_,_,_,_,e=>by simp only [evQuiet] at e; cases e; rfl
 | o :: l,s,h,d,h',e=>by
  simp only [evQuiet] at e;split at e
  ·split at e
   ·exact zbw e
   ·cases e
  ·cases e
theorem zk {call:CallSem} {V:List Nat}:∀ {l:List AOper} {s:Slots} {h:Heap} {d:Slots} {h':Heap},evQuietV call V l s h=some (d,h')→h'=h
 | [],_,_,_,_,e=>by simp only [evQuietV] at e; cases e; rfl
 | o :: l,s,h,d,h',e=>by
  simp only [evQuietV] at e;split at e
  ·split at e
   ·exact zk e
   ·cases e
  ·cases e
theorem evQ_evol {call:CallSem} {l:List AOper} {s:Slots} {h:Heap} {d:Slots} {h':Heap} (e:evQ call l s h=some (d,h')):h'=h:=by
 unfold evQ at e;split at e
 ·exact zbw e
 ·split at e
  ·exact zk e
  ·cases e
theorem yi (lo hi:Nat) (os:List AObj):(killRange lo hi os).length=os.length:=by simp [killRange]
theorem ky (m:Nat):∀ (ds:List Did) (y:Nat) (os:List AObj),(hide m y ds os).length=os.length
 | [],_,_=>rfl
 | d :: r,y,os=>by
  simp only [hide];rw [ky m r];split
  ·rfl
  ·exact yi ..
theorem xd (m:Nat):∀ (ds:List Did) (y:Nat) (os:List AObj),allSeen m y ds=true→hide m y ds os=os
 | [],_,_,_=>rfl
 | d :: r,y,os,h=>by simp only [allSeen,bc] at h;simp only [hide];rw [if_pos h.1];exact xd m r _ _ h.2
theorem xe {call:CallSem} (hc:CallEvol call) {n0 m:Nat} {ds:List Did} {o:AOper} {s:Slots} {h:Heap} {y:Slot} {h':Heap} {d:Did} (e:lj call n0 m ds o s h=some (y,h',d)):Evol h h':=by
 have B:CallEvol noCall:=fun _ _ _ _ _ e=>by simp [noCall] at e
 unfold lj at e;split at e
 ·cases e
 ·split at e
  ·split at e
   ·cases e
   ·rename_i s1 h1 C;have j:=me hc C
    have A:h.size≤h1.size:=by have:=j.size;simp only [Heap.size,ky] at this;exact this
    simp only at e;split at e
    ·rename_i hw;split at e
     ·rename_i q;cases e;refine ⟨A,rfl,cr _ _,fun i hi p=>?_⟩;simp only at p;have:=j.objs i (by simp only [Heap.size,ky]; exact hi) (by omega);simp only [xd m ds 0 h.objs q] at this;exact this
     ·cases e
    ·rename_i hw;split at e
     ·rename_i q;cases e;refine ⟨A,rfl,aj _,fun i hi p=>?_⟩;have:=j.objs i (by simp only [Heap.size,ky]; exact hi) (by omega);simp only [xd m ds 0 h.objs q] at this;exact this
     ·split at e
      ·cases e;refine ⟨by simp [Heap.size],rfl,aj _,fun i hi _=>?_⟩;simp only;rw [ag hi]
      ·cases e
  ·split at e
   ·cases e
   ·rename_i s1 h1 C;have j:=me B C;simp only at e;split at e
    ·rename_i D;split at e
     ·split at e
      ·split at e
       ·cases e;refine ⟨?_,rfl,cr _ _,fun i hi p=>j.objs i hi (by simp only at p; omega)⟩;show h.size≤h1.size; omega
       ·cases e
      ·cases e
     ·split at e
      ·cases e; exact Evol.refl _
      ·cases e
    ·rename_i G;split at e
     ·rename_i A;split at e
      ·split at e
       ·split at e
        ·rename_i hw;cases e;refine ⟨?_,rfl,aj _,fun i hi _=>j.objs i hi (by rw [hw]; exact hi)⟩;show h.size≤h1.size; omega
        ·cases e;refine ⟨?_,rfl,cr _ _,fun i hi p=>j.objs i hi (by simp only at p; omega)⟩;show h.size≤h1.size; omega
       ·cases e
      ·cases e
     ·cases e
theorem xf {call:CallSem} (hc:CallEvol call) {n0:Nat}:∀ {ops:List AOper} {ms:List Nat} {ds:List Did} {s:Slots} {h:Heap} {j:Slots} {h':Heap},ik call n0 ms ops ds s h=some (j,h')→Evol h h'
 | [],_,_,_,_,_,_,e=>by simp only [ik] at e; cases e; exact Evol.refl _
 | o :: l,ms,ds,s,h,j,h',e=>by
  simp only [ik] at e;split at e
  ·rename_i y h1 d p;split at e
   ·exact (xe hc p).trans (xf hc e)
   ·cases e
  ·cases e
theorem segs_evol {call:CallSem} (hc:CallEvol call):∀ {l:List Seg} {s:Slots} {h:Heap} {d:Slots} {h':Heap},jh call l s h=some (d,h')→Evol h h'
 | [],_,_,_,_,e=>by simp only [jh] at e; cases e; exact Evol.refl _
 | g :: l,s,h,d,h',e=>by
  simp only [jh] at e;split at e
  ·rename_i s1 h1 h2;refine Evol.trans ?_ (segs_evol hc e);split at h2
   ·split at h2
    ·rw [evQ_evol h2]; exact Evol.refl _
    ·exact xf hc h2
   ·exact ops_evol hc h2
  ·cases e
theorem loop_evol {f:St→Option (AExit × St)} (d:∀ st e st',f st=some (e,st')→Evol st.h st'.h):∀ (n:Nat) (st:St) (e:AExit) (st':St),loopN f n st=some (e,st')→Evol st.h st'.h
 | 0,_,_,_,h=>by simp [loopN] at h
 | n+1,st,e,st',h=>by
  simp only [loopN] at h;split at h
  ·rename_i j h1;exact (d _ _ _ h1).trans (loop_evol d n _ _ _ h)
  ·exact d _ _ _ h
theorem nk {call:CallSem} (hc:CallEvol call) (n:Nat):∀ (c:ACode) (st:St) (e:AExit) (st':St),da call n c st=some (e,st')→Evol st.h st'.h:=by
 intro c;induction c with
 | skip=>intro st e st' h; simp only [da] at h; cases h; exact Evol.refl _
 | region gs =>
  intro st e st' h;simp only [da] at h;rw [ae] at h;obtain ⟨⟨s1,h1⟩,h2,h⟩:=h;cases h;exact segs_evol hc h2
 | seq a b iha ihb =>
  intro st e st' h;simp only [da] at h;split at h
  ·rename_i p h1;exact (iha _ _ _ h1).trans (ihb _ _ _ h)
  ·exact iha _ _ _ h
 | cond c t e iht ihe =>
  intro st e st' h;simp only [da] at h;split at h
  ·exact iht _ _ _ h
  ·exact ihe _ _ _ h
  ·cases h
 | block id a ih =>
  intro st e st' h;simp only [da] at h;split at h
  ·rename_i j p h1;split at h <;> cases h <;> exact ih _ _ _ h1
  ·exact ih _ _ _ h
 | loop a ih=>intro st e st' h; exact loop_evol ih n _ _ _ h
 | exit id=>intro st e st' h; simp only [da] at h; cases h; exact Evol.refl _
 | ret=>intro st e st' h; simp only [da] at h; cases h; exact Evol.refl _
 | live l a ih=>intro st e st' h; simp only [da] at h; have h2:=ih _ _ _ h; exact h2
 | after a l ih =>
  intro st e st' h;simp only [da] at h;split at h
  ·rename_i p h1;cases h;have h2:=ih _ _ _ h1;exact h2
  ·exact ih _ _ _ h
 | rangeFunc f g caps ps a b _ _ =>
  intro st e st' h;simp only [da] at h;split at h
  ·rename_i A sl _ _;split at h
   ·rename_i x h1 q
    have h2:Evol (st.h.push (.loop g .ready none sl)) h1:=by
     unfold callVal at q;split at q
     ·exact hc _ _ _ _ _ q
     ·cases q
    have y:Evol h1 st'.h:=by
     unfold loopEnd at h;split at h
     ·split at h
      ·cases h
      ·cases h; exact Evol.put _ _ _
     ·cases h
    exact (Evol.push _ _).trans (h2.trans y)
   ·cases h
  ·cases h
 | next d x=>intro st e st' h; simp [da] at h
theorem yj {α β:Type} {f:α→Option (List β)}:∀ {l:List α} {e:List β},flatL f l=some e→∀ y ∈ e,∃ x ∈ l,∃ j,f x=some j∧y ∈ j
 | [],e,h,y,d=>by simp only [flatL] at h; cases h; cases d
 | x :: l,e,h,y,d=>by
  simp only [flatL] at h;split at h;case h_2=>cases h
  rename_i a b h1 h2;cases h;rcases bz.1 d with d | d
  ·exact ⟨x,a8 ..,a,h1,d⟩
  ·obtain ⟨p,q,j,A,B⟩:=yj h2 y d;exact ⟨p,bd _ q,j,A,B⟩
theorem nextOuts_evol {d:Option Nat} {x:Opd} {st:St} {l:List (AExit × St)} (e:nextOuts d x st=some l):∀ y ∈ l,Evol st.h y.2.h:=by
 intro y j;unfold nextOuts at e;split at e;case h_2=>cases e
 split at e;case isFalse=>cases e
 split at e
 ·cases e;rw [bk] at j; subst j;exact Evol.put _ _ _
 ·split at e;case h_2=>cases e
  split at e;case isFalse=>cases e
  split at e
  ·cases e;rw [bk] at j; subst j;exact Evol.put _ _ _
  ·cases e;rw [bt] at j;obtain ⟨q,_,rfl⟩:=j;exact Evol.put _ _ _
 ·cases e
theorem zbx {f:St→Option (List (AExit × St))} (j:∀ st l,f st=some l→∀ y ∈ l,Evol st.h y.2.h):∀ (n:Nat) (st:St) (l:List (AExit × St)),loopO f n st=some l→∀ y ∈ l,Evol st.h y.2.h
 | 0,st,l,h=>by simp [loopO] at h
 | n+1,st,l,h=>by
  intro y p;simp only [loopO] at h;split at h;case h_2=>cases h
  rename_i q h1;obtain ⟨x,hx,A,e,d⟩:=yj h y p;have k:=j _ _ h1 x hx;split at e
  ·exact k.trans (zbx j n _ _ e y d)
  ·cases e;rw [bk] at d; subst d;exact k
theorem yk {call:CallSem} (hc:CallEvol call) (n:Nat):∀ (c:ACode) (st:St) (l:List (AExit × St)),eg call n c st=some l→∀ y ∈ l,Evol st.h y.2.h:=by
 have base:∀ (c:ACode) (st:St) (l:List (AExit × St)),(da call n c st).map (fun x=>[x])=some l→∀ y ∈ l,Evol st.h y.2.h:=by intro c st l e y j;rw [ae] at e;obtain ⟨x,e,rfl⟩:=e;rw [bk] at j; subst j;exact nk hc n _ _ _ _ e
 intro c;induction c with
 | skip=>exact base _
 | region gs=>exact base _
 | exit id=>exact base _
 | ret=>exact base _
 | rangeFunc f g caps ps a b _ _=>exact base _
 | seq a b iha ihb =>
  intro st l e y j;simp only [eg] at e;split at e;case h_2=>cases e
  rename_i A h1;obtain ⟨x,hx,D,q,p⟩:=yj e y j;have k:=iha _ _ h1 x hx;split at q
  ·exact k.trans (ihb _ _ q y p)
  ·cases q;rw [bk] at p; subst p;exact k
 | cond c t e iht ihe =>
  intro st l h y j;simp only [eg] at h;split at h
  ·exact iht _ _ h y j
  ·exact ihe _ _ h y j
  ·cases h
 | block id a ih =>
  intro st l e y j;simp only [eg] at e;rw [ae] at e;obtain ⟨A,h1,rfl⟩:=e;rw [bt] at j;obtain ⟨x,hx,rfl⟩:=j;have k:=ih _ _ h1 x hx;split
  ·split <;> exact k
  ·exact k
 | loop a ih=>intro st l e; exact zbx ih n _ _ e
 | live l a ih=>intro st B e y j; simp only [eg] at e; have h2:=ih _ _ e y j; exact h2
 | after a l ih =>
  intro st B e y j;simp only [eg] at e;rw [ae] at e;obtain ⟨A,h1,rfl⟩:=e;rw [bt] at j;obtain ⟨x,hx,rfl⟩:=j;have k:=ih _ _ h1 x hx;split
  ·have C:Evol st.h x.2.h:=k;exact C
  ·exact k
 | next d x=>intro st l e; exact nextOuts_evol e
theorem zl {h0 h:Heap} {v:AVal} (hb:h.base=h0.base) (hs:h0.size≤h.size) (ho:∀ i,i < h0.size→i < h.wmin→h.objs[i]? = h0.objs[i]?):Evol h0 (dj h0 v h).2:=by
 unfold dj;split
 ·exact ⟨hs,hb,cr _ _,fun i hi hw=>ho i hi (by simp only at hw; omega)⟩
 ·rename_i hw;split
  ·exact Evol.refl _
  ·simp only;split
   ·exact ⟨by simp [Heap.size],rfl,aj _,fun i hi _=>by simp only; rw [ag hi]⟩
   ·exact ⟨hs,hb,aj _,fun i hi _=>ho i hi (by omega)⟩
theorem allSame_mem {l:List (Option (AVal × Heap))} {r:AVal × Heap} (e:allSame l=some r):some r ∈ l:=by
 unfold allSame at e;split at e
 ·split at e
  ·cases e; exact a8 ..
  ·cases e
 ·cases e
theorem sm {f:AFunc} {h:Heap} {x:AExit × St} {r:AVal × Heap} (hx:Evol { h with wmin:=h.size } x.2.h) (e:funcEnd f h x=some r):Evol h r.2:=by
 have key:∀ (st:St),Evol { h with wmin:=h.size } st.h→((resultsL st.s st.h f.results).map fun vs=>dj h (tupled vs) st.h)=some r→Evol h r.2:=by intro st d h2;rw [ae] at h2;obtain ⟨vs,_,h2⟩:=h2;have j:=zl (h0:=h) (h:=st.h) (v:=tupled vs) d.base d.size (fun i hi hw=>d.objs i hi hw);rw [h2] at j;exact j
 obtain ⟨x,st⟩:=x;cases x with
 | normal=>exact key st hx e
 | ret=>exact key st hx e
 | exit id=>simp [funcEnd] at e
theorem func_evol {call:CallSem} (hc:CallEvol call) {n:Nat} {f:AFunc} {args:List AVal} {h:Heap} {v:AVal} {h':Heap} (e:evFunc call n f args h=some (v,h')):Evol h h':=by
 unfold evFunc at e;split at e;case isFalse=>cases e
 split at e
 ·split at e;case h_2=>cases e
  rename_i l d;have:=allSame_mem e;rw [bt] at this;obtain ⟨x,hx,j⟩:=this;exact sm (yk hc n _ _ _ d x hx) j
 ·split at e;case h_2=>cases e
  rename_i x hx;exact sm (nk hc n _ _ _ _ hx) e
theorem round_evol {call:CallSem} (hc:CallEvol call) {n g:Nat} {r:ARound} {args:List AVal} {h:Heap} {v:AVal} {h':Heap} (e:evRound call n g r args h=some (v,h')):Evol h h':=by
 unfold evRound at e;split at e
 ·split at e
  ·split at e
   ·split at e
    ·rename_i i _ aZ _ _ s _ _ st d
     have h1:Evol { h with wmin:=h.size } st.h:=by
      unfold mg at d;split at d
      ·rename_i A h0;split at d
       ·split at d
        ·cases d; exact (nk hc n _ _ _ _ h0).trans (Evol.put _ _ _)
        ·cases d
       ·cases d
      ·cases d
     unfold roundOut at e;split at e
     ·rename_i x j h2;have B:=h1.trans (nk hc n _ _ _ _ h2);split at e
      ·rename_i p _;split at e
       ·injection e with e;have q:=B.trans (Evol.put j.h i (.loop g (if x = .normal then .ready else .done) (if x = .normal then none else some x) p));have y:=zl (h0:=h) (v:=.bool (decide (x = .normal))) q.base q.size fun i hi hw=>q.objs i hi hw
        rw [e] at y;exact y
       ·cases e
      ·cases e
     ·cases e
    ·cases e
   ·cases e
  ·cases e
 ·cases e
theorem wrapC_evol {r:List AVal→Heap→Option (AVal × Heap)} (hr:∀ args h v h',r args h=some (v,h')→Evol h h') {c:Bool} {args:List AVal} {h:Heap} {v:AVal} {h':Heap} (e:wrapC c r args h=some (v,h')):Evol h h':=by
 cases c with
 | false=>exact hr _ _ _ _ e
 | true =>
  simp only [wrapC,evClosed,if_true] at e;split at e
  ·split at e
   ·split at e
    ·cases e; exact Evol.refl _
    ·cases e
   ·cases e
  ·cases e
theorem ki (T:Nat→Option AFunc):∀ n,CallEvol (du T n)
 | 0=>by intro g args h v h' e; simp [du] at e
 | n+1=>by
  intro g args h v h' e;simp only [du] at e;split at e
  ·split at e
   ·exact round_evol (ki T n) e
   ·rw [ae] at e;obtain ⟨_,_,e⟩:=e;cases e;exact Evol.puts _ _ _
   ·exact wrapC_evol (fun _ _ _ _ e=>func_evol (ki T n) e) e
  ·cases e
end Go.Abs

namespace Go.Abs
def F0 (ro:Option Nat):Fence:={ Fence.wide with round:=ro }
def Ends (E:Env) (μ:MM) (w:World) (v:AVal) (h':Heap) (e:Ending) (w':World):Prop :=
  ∃ v' μ',e = .returned v'∧Step (fun _=>False) h'.wmin μ w μ' w'∧VRel E μ' v v'∧Rel E μ' h' w'
structure CallOK (E:Env) (call:CallSem):Prop where
  fn:∀ (g:Nat) (args:List AVal) (h:Heap) (v:AVal) (h':Heap),call g args h=some (v,h')→∀ (f:FuncId),E.gid f=some g→∀ (μ:MM) (w:World) (args':Array Value),VRels E μ args args'.toList→Rel E μ h w →
    CallsIn (F0 none) 0 E.P f args' w (Ends E μ w v h')
  round:∀ (g i k:Nat) (args:List AVal) (h:Heap) (v:AVal) (h':Heap) (st:LoopSt) (p:Option AExit) (sl:List (Nat × AVal)),call g (.ptr (some (i,k)) :: args) h=some (v,h')→h.get i=some (.loop g st p sl) →
    ∀ (μ:MM) (w:World) (args':Array Value),VRels E μ args args'.toList→Rel E μ h w →
    ∃ (m:M) (r:Loop),μ[i]? = some (some m)∧w.heap[m.blk]? = some (.loop r)∧args'.size=r.params.size ∧
      RoundIn (F0 none) 0 E.P m.blk r.fn ((r.params.zip args').foldl (fun tmps (t,a)=>tmps.setIfInBounds t a) r.tmps) r.assign r.body w (Ends E μ w v h')
def GidOK (E:Env):Prop:=∀ f g,E.gid f=some g→∃ fn,E.P.funcs[f]? = some fn∧fn.name ≠ "runtime.NumGoroutine" ∧ fn.body.isSome=true
def markOf (r:Nat):Deferred:={ target:=.collected r,args:=#[] }
def At (E:Env) (lo nt:Nat) (μ0:MM) (w0:World) (ds:List Deferred) (s:Slots) (h:Heap) (a:Act) (w:World):Prop :=
  ∃ μ ν,Step (fun k=>lo≤k) h.wmin μ0 w0 μ w∧Rel E μ h w∧FRel E lo ν μ (sget s) a.tmps w∧a.tmps.size=nt∧a.defers=ν.ds.map markOf++ds∧lo≤w.heap.size
section
variable {E:Env} {lo nt:Nat} {μ0:MM} {w0:World} {ds:List Deferred} {s:Slots} {h:Heap} {a:Act} {w:World} {call:CallSem} {ro:Option Nat}
theorem nu (a:Act) (dst:Option Tmp) (v:Value):(a.put dst v).tmps.size=a.tmps.size:=by cases dst <;> simp [Act.put]
theorem li (a:Act) (dst:Option Tmp) (v:Value):(a.put dst v).defers=a.defers:=by cases dst <;> rfl
theorem At.undef (d:At E lo nt μ0 w0 ds s h a w) {dst:Option Nat} (hd:∀ t,dst=some t→t < nt):At E lo nt μ0 w0 ds (a9 dst .undef s) h (a.put dst Go.undef) w:=by obtain ⟨μ,ν,j,p,q,e,y,A⟩:=d;refine ⟨μ,ν,j,p,?_,by rw [nu]; exact e,by rw [li]; exact y,A⟩;rw [ig];exact (q.setUndef (fun x hx=>by rw [e]; exact hd x hx)).congr fun t=>ir _ _ _ _
theorem jd (d:GidOK E) {f g:Nat} (e:E.gid f=some g) (args:Array Value) (w:World):(callFunc f args).run E.P w = .ok (.enter f args) w:=by obtain ⟨fn,h1,h2,j⟩:=d f g e;obtain ⟨c,hb⟩:=Option.isSome_iff_exists.1 j;simp [callFunc,h1,h2,hb]
theorem run_sound (hc:CallOK E call) (al:CallEvol call) (hg:GidOK E) {ops:Array Oper} {loc:Bool} {o:Oper} {o':AOper} {s':Slots} {h':Heap} (D:kr E nt ops loc o=some o') (G:evRun call o' s h=some (s',h'))
    (an:At E lo nt μ0 w0 ds s h a w) {next:Act→World→Prop} {Q:Exit→Act→World→Prop} (hn:∀ a' w',At E lo nt μ0 w0 ds s' h' a' w'→next a' w'):o.wpIn (F0 ro) 0 E.P a w next Q:=by
  unfold kr at D;split at D;case isFalse=>cases D
  rename_i hh;simp only [bc,c9,ep] at hh;obtain ⟨ax,b6⟩:=hh;have hd:∀ t,o.dst=some t→t < nt:=fun t ht=>by rw [ht] at ax; simpa using ax
  have ay:loc=true→isStore o.op=false→o.dst.isSome=true:=fun hl b7=>(b6.resolve_right (by rw [b7]; simp)).resolve_left (by rw [hl]; simp)
  have ac:o'.dst=o.dst∧o'.op=cOpS E loc o.op:=by
    split at D
    · cases D; exact ⟨rfl,rfl⟩
    · split at D
      · cases D; exact ⟨rfl,rfl⟩
      · cases D
  have bb:∃ ao,cOp E loc o.op=some ao∧o'.op=ao:=by
    cases b5:cOp E loc o.op with
    | some ao=>exact ⟨ao,rfl,by rw [ac.2,cOpS,b5]⟩
    | none =>
      exfalso;unfold evRun at G;rw [ac.2,cOpS,b5] at G;simp [c7] at G
  obtain ⟨ao,j,e2⟩:=bb;have e1:=ac.1;unfold evRun at G;rw [e1,e2] at G;split at G;case h_2=>cases G
  rename_i x s1 h1 d;cases G;have ci:=an;obtain ⟨μ,ν,k1,k2,k3,k4,k5,k6⟩:=an;have L:=op_evol al d;have bm:∀ c,o.op ≠ .defer c:=fun c bx=>by rw [bx] at j; simp [cOp] at j
  refine ⟨fun _ _=>trivial,?_⟩;rw [Oper.semAt_eq _ _ _ bm]
  have a6:∀ (v:AVal) (e:Ending) (w':World),Ends E μ w v h' e w'→x = .val v→s1=s→(match e with | .returned v=>next (a.put o.dst v) w' | .panicked chain=>Q (.panic chain) a w' | .outgrown=>LetsOut Q):=by
    rintro v e w' ⟨v',μ',rfl,W,j2,j3⟩ hx hs;subst hx; subst hs;refine hn _ _ ⟨μ',ν,?_,j3,?_,by rw [nu]; exact k4,by rw [li]; exact k5,de k6 W.size⟩
    · exact k1.trans (W.weaken (aj _) fun b hb _=>hb.elim) L.wmin
    · rw [ig]
      exact ((k3.step W fun b _ hb=>hb).setVal (fun y hy=>by rw [k4]; exact hd y hy) j2).congr fun t=>ir _ _ _ _
  have C:∀ (g:Nat) (f:FuncId) (aZ:List AVal) (args':Array Value) (v:AVal),call g aZ h=some (v,h')→E.gid f=some g→VRels E μ aZ args'.toList →
      (execOp a.eval o).run E.P w = .ok (.enter f args') w→x = .val v→s1=s→o.uponIn (F0 ro) 0 E.P a next Q ((execOp a.eval o).run E.P w):=by
    intro g f aZ args' v q X A N hx hs;rw [N,Oper.uponIn_enter];refine ⟨fun hh=>by simp [F0,Fence.wide] at hh,?_⟩
    exact CallsIn.mono (F:=F0 ro) (n:=0) (hc.fn g aZ h v h' q f X μ w args' A k2) fun e w' he=>by have:=a6 v e w' he hx hs;cases e <;> exact this
  have I:∀ (g i:Nat) (aZ:List AVal) (args':Array Value) (v:AVal) (st:LoopSt) (p:Option AExit) (sl:List (Nat × AVal)),call g (.ptr (some (i,0)) :: aZ) h=some (v,h')→h.get i=some (.loop g st p sl)→VRels E μ aZ args'.toList →
      (∀ (m:M),μ[i]? = some (some m)→(execOp a.eval o).run E.P w=(Instr.yield m.blk args').run E.P w)→x = .val v→s1=s→o.uponIn (F0 ro) 0 E.P a next Q ((execOp a.eval o).run E.P w):=by
    intro g i aZ args' v st p sl q hg A N hx hs;obtain ⟨m,r,q1,q2,q3,q4⟩:=hc.round g i 0 aZ h v h' st p sl q hg μ w args' A k2;rw [N m q1,run_yield q2 q3,Oper.uponIn_round];refine ⟨fun hh=>by simp [F0,Fence.wide] at hh,?_⟩
    exact RoundIn.mono (F:=F0 ro) (n:=0) q4 fun e w' he=>by have:=a6 v e w' he hx hs;cases e <;> exact this
  by_cases J:(∃ f aZ,ao = .call f aZ)∨(∃ g aZ,ao = .callg g aZ)
  · have H:∃ c,o.op = .call c∧cCall E c=some ao:=by
      cases ho:o.op with
      | call c=>exact ⟨c,rfl,by rw [ho] at j; simpa only [cOp] using j⟩
      | makeFunc fn x1 x2 =>
        rw [ho] at j;exfalso;cases fn <;> simp only [cOp] at j <;> (try (cases j; done))
        rcases J with ⟨f,aZ,rfl⟩ | ⟨g,aZ,rfl⟩ <;> (split at j <;> cases j)
      | makeMap t hint =>
        rw [ho] at j;exfalso
        rcases J with ⟨f,aZ,rfl⟩ | ⟨g,aZ,rfl⟩ <;>
          (cases hint with
           | none=>simp [cOp] at j
           | some y =>
             cases y with
             | const v=>cases v <;> simp only [cOp] at j <;> first | (cases j; done) | (split at j <;> cases j)
             | _=>simp [cOp] at j)
      | _ =>
        rw [ho] at j;exfalso
        rcases J with ⟨f,aZ,rfl⟩ | ⟨g,aZ,rfl⟩ <;>
          (simp only [cOp,cBin,cConv,cEq] at j
           repeat' split at j
           all_goals first
             | (cases j; done)
             | (rw [ae] at j; obtain ⟨_,_,j⟩:=j; first | (cases j; done) | (split at j <;> cases j)))
    obtain ⟨c,H,B⟩:=H;unfold cCall at B;split at B
    · rename_i f K
      split at B
      case h_2 =>
        exfalso;rw [ae] at B;obtain ⟨_,_,B⟩:=B;rcases J with ⟨f,aZ,rfl⟩ | ⟨g,aZ,rfl⟩ <;> cases B
      case h_3=>cases B
      rename_i g aZ X a0;cases B;simp only [c7] at d;split at d;case h_2=>cases d
      rename_i vs O;rw [ae] at d;obtain ⟨⟨v,h2⟩,q,d⟩:=d;cases d;have A:=jr k3 a0 O;refine C g f vs (c.args.map a.eval) v q X (by simpa using A) ?_ rfl rfl;have:=jd hg X (c.args.map a.eval) w;simp [execOp,H,resolve,K,Act.eval,Deferred.ofValue,invoke,this]
    · rename_i y cp K
      split at B;case h_2=>cases B
      rename_i y' aZ hy a0;cases B;simp only [c7] at d;split at d
      · rename_i g first caps vs ad O
        rw [ae] at d;obtain ⟨⟨v,h2⟩,q,d⟩:=d;cases d;have A:=jr k3 a0 O;have U:=cd k3 hy ad;simp only [VRel] at U;obtain ⟨c4,f',c',q1,q2,q3,q4⟩:=U;refine C g c4 (first++vs++caps) (f'++c.args.map a.eval++c') v q q2 ?_ ?_ rfl rfl
        · simpa using (q3.append A).append q4
        · have:=jd hg q2 (f'++(c.args.map a.eval++c')) w
          simp [execOp,H,resolve,K,q1,Deferred.ofValue,invoke,this]
      · rename_i i vs ad O
        split at d;case h_2=>cases d
        rename_i g st p sl c5;rw [ae] at d;obtain ⟨⟨v,h2⟩,q,d⟩:=d;cases d;have A:=jr k3 a0 O;have U:=cd k3 hy ad;simp only [VRel] at U;obtain ⟨l,xx,q1,q2,q3⟩:=U;refine I g i vs (c.args.map a.eval) v st p sl q c5 (by simpa using A) (fun m hm=>?_) rfl rfl;rw [hm] at q2; cases q2;have:=q3 m rfl; subst this;simp [execOp,H,resolve,K,q1,Deferred.ofValue,invoke]
      · cases d
    · -- a built-in is no call
      exfalso
      rcases J with ⟨f,aZ,rfl⟩ | ⟨g,aZ,rfl⟩ <;>
        (repeat' split at B
         all_goals first
           | (cases B; done)
           | (rw [ae] at B; obtain ⟨_,_,B⟩:=B; cases B))
    · cases B
  · obtain ⟨v,w',μ',ν',j0,W,j2,j3,j4⟩:=op_sound j (fun f aZ e=>J (.inl ⟨f,aZ,e⟩)) (fun g aZ e=>J (.inr ⟨g,aZ,e⟩)) d k3 k2 k6 (fun t ht=>by rw [k4]; exact hd t ht) ay
    have aa:At E lo nt μ0 w0 ds (a9 o.dst x s1) h' (a.put o.dst v) w':=by refine ⟨μ',ν',k1.trans j2 L.wmin,j3,?_,by rw [nu]; exact k4,by rw [li,j0]; exact k5,de k6 j2.size⟩;exact j4.congr fun t=>ir _ _ _ _
    rcases W with W | ⟨rfl,W⟩
    · rw [W]; exact hn _ _ aa
    · rw [W]; exact hn _ _ aa
theorem pz (hc:CallOK E call) (y:CallEvol call) (X:GidOK E) {ops:Array Oper} {loc:Bool} {o:Oper} {o':AOper} {s':Slots} {h':Heap} (p:kr E nt ops loc o=some o') (e:dy call o' s h=some (s',h'))
    (C:At E lo nt μ0 w0 ds s h a w) {next:Act→World→Prop} {Q:Exit→Act→World→Prop} (I:∀ a' w',At E lo nt μ0 w0 ds s' h' a' w'→next a' w') :
    if Region.wanted o (yielded ops a.tmps) then o.wpIn (F0 ro) 0 E.P a w next Q else next (a.put o.dst Go.undef) w:=by
  have A:=p;unfold kr at p;split at p;case isFalse=>cases p
  rename_i hh;simp only [bc,c9,ep] at hh;have hd:∀ t,o.dst=some t→t < nt:=fun t ht=>by have:=hh.1; rw [ht] at this; simpa using this
  unfold dy at e;split at p
  · rename_i q
    cases p;simp only at e;have:Region.wanted o (yielded ops a.tmps)=true:=by simp [Region.wanted,q]
    rw [if_pos this];exact run_sound hc y X A e C I
  · rename_i j D q
    split at p;case h_2=>cases p
    rename_i d G;cases p;simp only at e;obtain ⟨μ,ν,J,K,H,L,N,O⟩:=C;split at e
    · rename_i b hb
      obtain ⟨v',U,hr⟩:=H.val d _ hb;simp only [VRel] at hr; subst hr;have W:yielded ops a.tmps j=some b:=by simp [yielded,G,U]
      have hw:Region.wanted o (yielded ops a.tmps)=(b == D):=by simp [Region.wanted,q,W]
      split at e
      · rename_i B
        rw [if_pos (by rw [hw]; simpa using B)];exact run_sound hc y X A e ⟨μ,ν,J,K,H,L,N,O⟩ I
      · rename_i B
        cases e;rw [if_neg (by rw [hw]; simpa using B)];exact I _ _ (At.undef ⟨μ,ν,J,K,H,L,N,O⟩ hd)
    · rename_i hb
      cases e;have U:=H.undef d hb;have W:yielded ops a.tmps j=none:=by simp [yielded,G,U,Go.undef]
      have hw:Region.wanted o (yielded ops a.tmps)=false:=by simp [Region.wanted,q,W]
      rw [if_neg (by simp [hw])];exact I _ _ (At.undef ⟨μ,ν,J,K,H,L,N,O⟩ hd)
    · cases e
theorem yg (hc:CallOK E call) (j:CallEvol call) (H:GidOK E) {ops:Array Oper} {q:List Nat} {Q:Exit→Act→World→Prop}:∀ (l:List Oper) (i:Nat) (aZ:List AOper) (s:Slots) (h:Heap) (y:Slots) (h':Heap) (a:Act) (w:World),
    ops.toList.drop i=l→ll E nt ops q i l=some aZ→evOps call aZ s h=some (y,h')→At E lo nt μ0 w0 ds s h a w→(∀ B w',At E lo nt μ0 w0 ds y h' B w'→Q .normal B w') →
    wpOpsIn (F0 ro) 0 E.P ops Q (List.range' i l.length) a w
  | [],i,aZ,s,h,y,h',a,w,_,d,e,p,C=>by simp only [ll] at d; cases d;simp only [evOps] at e; cases e;exact C _ _ p
  | o :: l,i,aZ,s,h,y,h',a,w,hd,d,e,p,C=>by
    simp only [ll] at d;split at d;case h_2=>cases d
    rename_i K aZ' ho D;cases d;simp only [evOps] at e;split at e;case h_2=>cases e
    rename_i s1 h1 I
    have hi:ops[i]? = some o:=by have:=congrArg (fun l=>l[0]?) hd;simpa using this
    have G:ops.toList.drop (i+1)=l:=by have:=congrArg List.tail hd;simpa using this
    have J:=fun B w' A=>yg hc j H l (i+1) aZ' s1 h1 y h' B w' G D e A C
    simp only [cq,List.range'_succ,wpOpsIn,hi];have:=pz (ro:=ro) (Q:=Q) hc j H ho I p J;split
    · rename_i hw; rw [if_pos hw] at this; exact this
    · rename_i hw; rw [if_neg hw] at this; exact ⟨fun _ _=>trivial,this⟩
end
end Go.Abs

namespace Go.Abs
structure AgreeV (V:Nat→Prop) (S S2:Slots) (ts:List Nat):Prop where
 at_:∀ t ∈ ts,sget S t=sget S2 t
 var:∀ t cs,¬ V t→(sget S t=some (.var cs) ↔ sget S2 t=some (.var cs))
 no:∀ t ∈ ts,¬ V t∧∀ t' o,sget S t=some (.loc t' o)→¬ V t'
abbrev Agree (S S2:Slots) (ts:List Nat):Prop:=AgreeV (fun _=>False) S S2 ts
theorem Agree.of {S S2:Slots} {ts:List Nat} (h1:∀ t ∈ ts,sget S t=sget S2 t) (h2:∀ t cs,sget S t=some (.var cs) ↔ sget S2 t=some (.var cs)):Agree S S2 ts :=
 ⟨h1,fun t cs _=>h2 t cs,fun _ _=>⟨id,fun _ _ _=>id⟩⟩
section
variable {V:Nat→Prop} {S S2:Slots} {ts us:List Nat} {h:Heap}
theorem AgreeV.left (ha:AgreeV V S S2 (ts++us)):AgreeV V S S2 ts:=⟨fun t d=>ha.at_ t (dr _ d),ha.var,fun t d=>ha.no t (dr _ d)⟩
theorem AgreeV.right (ha:AgreeV V S S2 (ts++us)):AgreeV V S S2 us:=⟨fun t d=>ha.at_ t (gb _ d),ha.var,fun t d=>ha.no t (gb _ d)⟩
theorem AgreeV.sub (ha:AgreeV V S S2 ts) (h:∀ t ∈ us,t ∈ ts):AgreeV V S S2 us:=⟨fun t d=>ha.at_ t (h t d),ha.var,fun t d=>ha.no t (h t d)⟩
theorem eu {x:Opd} (ha:AgreeV V S S2 x.reads):x.ev S2=x.ev S:=by
 cases x with
 | const v=>rfl
 | tmp t=>simp only [Opd.ev,← ha.at_ t (by simp [Opd.reads])]
theorem oh:∀ {xs:List Opd},AgreeV V S S2 (readsL xs)→evs S2 xs=evs S xs
 | [],_=>rfl
 | x :: xs,ha=>by simp only [readsL] at ha;simp only [evs,eu ha.left,oh ha.right]
theorem tq {x:Option Opd} (ha:AgreeV V S S2 (readsO x)):optEv S2 x=optEv S x:=by
 cases x with
 | none=>rfl
 | some x=>simp only [readsO] at ha; simp only [optEv,eu ha]
theorem re {x:Opd} (ha:AgreeV V S S2 x.reads):x.adr S2=x.adr S:=by
 cases x with
 | const v=>rfl
 | tmp t=>simp only [Opd.adr,← ha.at_ t (by simp [Opd.reads])]
theorem adr_no {x:Opd} (ha:AgreeV V S S2 x.reads) {t o:Nat} (h:x.adr S=some (.loc t o)):¬ V t:=by
 cases x with
 | const v=>cases h
 | tmp u =>
  obtain ⟨h1,h2⟩:=ha.no u (by simp [Opd.reads]);simp only [Opd.adr] at h;split at h
  ·cases h
  ·cases h; exact h1
  ·rename_i t' d hs; cases h; exact h2 _ _ hs
  ·cases h
theorem tr (ha:AgreeV V S S2 ts) (t:Nat) (e:¬ V t):isVar S2 t=isVar S t:=by
 have key:∀ (A B:Slots),(∀ cs,sget A t=some (.var cs)→sget B t=some (.var cs))→isVar A t=true→isVar B t=true:=by
  intro A B d h1;unfold isVar at h1;split at h1
  ·rename_i cs h2; unfold isVar; rw [d cs h2]
  ·cases h1
 rw [wd];exact ⟨key S2 S fun cs=>(ha.var t cs e).2,key S S2 fun cs=>(ha.var t cs e).1⟩
theorem cellsAt_congr (ha:AgreeV V S S2 ts) (d:AAddr) (j:∀ t o,d = .loc t o→¬ V t):cellsAt S2 h d=cellsAt S h d:=by
 cases d with
 | glob i o=>rfl
 | loc t o =>
  have e:=j t o rfl;simp only [cellsAt];cases h1:sget S t with
  | none =>
   cases h2:sget S2 t with
   | none=>rfl
   | some y=>cases y <;> first | rfl | (rename_i cs; have:=(ha.var t cs e).2 h2; rw [h1] at this; cases this)
  | some x =>
   cases x with
   | var cs=>rw [(ha.var t cs e).1 h1]
   | _ =>
    cases h2:sget S2 t with
    | none=>rfl
    | some y=>cases y <;> first | rfl | (rename_i cs; have:=(ha.var t cs e).2 h2; rw [h1] at this; cases this)
theorem loadAt_congr (ha:AgreeV V S S2 ts) (d:AAddr) (n:Option Nat) (e:∀ t o,d = .loc t o→¬ V t):loadAt S2 h d n=loadAt S h d n:=by simp only [loadAt,cellsAt_congr ha d e]
theorem v8:∀ {ps:List (Nat × Nat × Opd)} {cs:List AVal},AgreeV V S S2 (readsP ps)→fill S2 cs ps=fill S cs ps
 | [],_,_=>rfl
 | (o,n,x) :: ps,cs,ha=>by
  simp only [readsP] at ha;simp only [fill,eu ha.left];split
  ·split
   ·exact v8 ha.right
   ·rfl
  ·rfl
theorem aSlice_congr {k:SliceKind} {x:Opd} {lo hi d:Option AVal} (ha:AgreeV V S S2 x.reads):aSlice k S2 h x lo hi d=aSlice k S h x lo hi d:=by cases k <;> simp only [aSlice,eu ha,re ha]
def Same (S S2:Slots) (r r2:Option (Slot × Slots × Heap)):Prop :=
 ∀ x s' h',r=some (x,s',h')→s'=S∧r2=some (x,S2,h')∧∀ cs,x ≠ .var cs
theorem gr (v:Option AVal):Same S S2 (ok1 S h v) (ok1 S2 h v):=by intro x d h' e;obtain ⟨u,rfl,rfl,rfl,rfl⟩:=fo e;exact ⟨rfl,rfl,fun cs e=>by cases e⟩
theorem df (d:Option (Slot × Slots × Heap)):Same S S2 none d:=by intro x j h' e; cases e
theorem pv (v:AVal) (h':Heap):Same S S2 (some (.val v,S,h')) (some (.val v,S2,h')):=by intro x d h1 e; cases e; exact ⟨rfl,rfl,fun cs e=>by cases e⟩
theorem zbn (t o:Nat):Same S S2 (some (.loc t o,S,h)) (some (.loc t o,S2,h)):=by intro x d h1 e; cases e; exact ⟨rfl,rfl,fun cs e=>by cases e⟩
theorem tv {α:Type} (r:Option α) (f:α→AVal) (g:α→Heap):Same S S2 (r.map fun y=>(.val (f y),S,g y)) (r.map fun y=>(.val (f y),S2,g y)):=by
 cases r with
 | none=>exact df _
 | some y=>exact pv _ _
theorem conv_same (k:ConvKind) (v:AVal):Same S S2 (n8 k v S h) (n8 k v S2 h):=by
 unfold n8;cases k <;> simp only
 ·split
  ·exact gr _
  ·exact df _
 ·split
  ·exact gr _
  ·exact df _
 ·split
  ·split
   ·exact pv _ _
   ·exact df _
  ·exact df _
 ·split
  ·split
   ·exact gr _
   ·exact df _
  ·exact df _
 ·split
  ·split
   ·split
    ·exact pv _ _
    ·exact df _
   ·exact df _
  ·exact df _
theorem op_congr {call:CallSem} {d:Nat} {o:AOp} (hc:calm o=true) (ha:AgreeV V S S2 o.reads):Same S S2 (c7 call d o S h) (c7 call d o S2 h):=by
 cases o with
 | lalloc z=>cases hc
 | lbox x=>cases hc
 | store n a x=>cases hc
 | copy e d s=>cases hc
 | val x=>simp only [c7,eu ha]; exact gr _
 | pick c a b =>
  simp only [c7,eu ha.left.left,eu ha.left.right,eu ha.right];split
  ·exact gr _
  ·exact gr _
  ·exact df _
 | alloc e z=>exact pv _ _
 | box x =>
  simp only [c7,eu ha];split
  ·exact pv _ _
  ·exact df _
 | build z ps=>simp only [c7,v8 ha]; exact gr _
 | mkslice e n z ps =>
  simp only [c7,v8 ha];split
  ·exact pv _ _
  ·exact df _
 | load n a =>
  simp only [c7,re ha];split
  ·rename_i q p;rw [loadAt_congr ha q n fun t o e=>adr_no ha (by rw [p,e])]; exact gr _
  ·exact df _
 | bin op x y =>
  simp only [c7,eu ha.left,eu ha.right];split
  ·exact gr _
  ·exact df _
 | un op x =>
  simp only [c7,eu ha];split
  ·exact gr _
  ·exact df _
 | conv k x =>
  simp only [c7,eu ha];split
  ·exact conv_same _ _
  ·exact df _
 | mkfunc g f c =>
  simp only [c7,oh ha.left,oh ha.right];split
  ·exact gr _
  ·exact df _
 | make e b z l c =>
  simp only [c7,eu ha.left,eu ha.right];split
  ·split
   ·exact pv _ _
   ·exact df _
  ·exact df _
 | slice k x lo hi mx =>
  simp only [c7,tq ha.right,tq ha.left.right,tq ha.left.left.right];split
  ·rw [aSlice_congr ha.left.left.left]; exact gr _
  ·exact df _
 | faddr x off =>
  simp only [c7,re ha];split
  ·exact gr _
  ·rename_i p;rw [tr ha _ (adr_no ha p)];split
   ·exact zbn _ _
   ·exact df _
  ·exact df _
 | field x off n =>
  simp only [c7,eu ha];split
  ·exact gr _
  ·exact df _
 | iaddr e x i =>
  simp only [c7,eu ha.left,eu ha.right];split
  ·exact gr _
  ·exact df _
 | aaddr n e x i =>
  simp only [c7,re ha.left,eu ha.right];split
  ·exact gr _
  ·rename_i p _;rw [tr ha.left _ (adr_no ha.left p)];split
   ·generalize inBounds n _=ib;cases ib with
    | none=>exact df _
    | some j=>exact zbn _ _
   ·exact df _
  ·exact df _
 | index x i =>
  simp only [c7,eu ha.left,eu ha.right];split
  ·exact gr _
  ·exact df _
 | aindex n e k x i =>
  simp only [c7,eu ha.left,eu ha.right];split
  ·exact gr _
  ·exact df _
 | extract x i =>
  simp only [c7,eu ha];split
  ·exact gr _
  ·exact df _
 | call f args =>
  simp only [c7,eu ha.left,oh ha.right];split
  ·exact tv _ _ _
  ·split
   ·exact tv _ _ _
   ·exact df _
  ·exact df _
 | ext k xs =>
  simp only [c7,oh ha];split
  ·exact tv _ _ _
  ·exact df _
 | callg g args =>
  simp only [c7,oh ha];split
  ·exact tv _ _ _
  ·exact df _
 | len k x =>
  simp only [c7,eu ha];split
  ·exact gr _
  ·exact df _
 | append e b x y =>
  simp only [c7,eu ha.left,eu ha.right];split
  ·exact tv _ _ _
  ·exact df _
 | minmax m xs =>
  simp only [c7,oh ha];split
  ·exact gr _
  ·exact df _
 | nilcheck x =>
  simp only [c7,eu ha,re ha];split
  ·exact gr _
  ·split
   ·rename_i p;rw [tr ha _ (adr_no ha p)];split
    ·exact zbn _ _
    ·exact df _
   ·exact df _
 | eqnil k neg x y =>
  simp only [c7,eu ha.left,eu ha.right];split
  ·exact gr _
  ·exact df _
 | beq neg x y =>
  simp only [c7,eu ha.left,eu ha.right];split
  ·exact gr _
  ·exact df _
 | nextStr x=>exact df _
theorem iz {call:CallSem} {o:AOper} (hc:calm o.op=true) (ha:AgreeV V S S2 o.reads) {d:Slots} {h':Heap} (e:dy call o S h=some (d,h')) :
  ∃ x,d=a9 o.dst x S∧dy call o S2 h=some (a9 o.dst x S2,h')∧∀ cs,x ≠ .var cs:=by
 have run:evRun call o S h=some (d,h')→∃ x,d=a9 o.dst x S∧evRun call o S2 h=some (a9 o.dst x S2,h')∧∀ cs,x ≠ .var cs:=by
  intro e;unfold evRun at e;split at e
  ·rename_i x s1 h1 h2;cases e;obtain ⟨j,p,q⟩:=op_congr hc ha.left _ _ _ h2;subst j;exact ⟨x,rfl,by unfold evRun; rw [p],q⟩
  ·cases e
 unfold dy at e ⊢;cases y:o.guard with
 | none =>
  rw [y] at e;exact run e
 | some tw =>
  obtain ⟨t,A⟩:=tw;rw [y] at e;have B:sget S2 t=sget S t:=(ha.at_ t (by simp [AOper.reads,y])).symm;simp only at e ⊢;rw [B];split at e
  ·split at e
   ·rename_i hb;obtain ⟨x,j,p,q⟩:=run e;exact ⟨x,j,by rw [if_pos hb]; exact p,q⟩
   ·rename_i hb;cases e;exact ⟨.undef,rfl,by rw [if_neg hb],fun cs e=>by cases e⟩
  ·cases e; exact ⟨.undef,rfl,rfl,fun cs e=>by cases e⟩
  ·cases e
end
end Go.Abs

namespace Go.Abs
section
variable {E:Env} {μ μ':MM}
mutual
theorem VRel.ids_lt:∀ {a:AVal} {v:Value},VRel E μ a v→∀ i ∈ a.ids,i < μ.length
 | .bool _,_,_,i,hi=>by simp [AVal.ids] at hi
 | .int _ _,_,_,i,hi=>by simp [AVal.ids] at hi
 | .str _,_,_,i,hi=>by simp [AVal.ids] at hi
 | .ptr none,_,_,i,hi=>by simp [AVal.ids] at hi
 | .ptr (some (j,o)),v,h,i,hi=>by simp only [AVal.ids,bk] at hi; subst hi;simp only [VRel] at h;obtain ⟨_,_,x,hx,_⟩:=h;exact ah hx
 | .slice none _ _,_,_,i,hi=>by simp [AVal.ids] at hi
 | .slice (some (j,o)) n c,v,h,i,hi=>by simp only [AVal.ids,bk] at hi; subst hi;simp only [VRel] at h;obtain ⟨_,_,_,hl,_⟩:=h;exact hl.1
 | .map none,_,_,i,hi=>by simp [AVal.ids] at hi
 | .map (some j),v,h,i,hi=>by simp only [AVal.ids,bk] at hi; subst hi;simp only [VRel] at h;obtain ⟨_,x,_,hx,_⟩:=h;exact ah hx
 | .yield j,v,h,i,hi=>by simp only [AVal.ids,bk] at hi; subst hi;simp only [VRel] at h;obtain ⟨_,x,_,hx,_⟩:=h;exact ah hx
 | .func g f c,v,h,i,hi=>by
  simp only [VRel] at h;obtain ⟨_,f',c',_,_,h1,h2⟩:=h;simp only [AVal.ids,bz] at hi;rcases hi with hi | hi
  ·exact VRels.ids_lt h1 i hi
  ·exact VRels.ids_lt h2 i hi
 | .nilFunc,_,_,i,hi=>by simp [AVal.ids] at hi
 | .iface _ _,_,h,_,_=>by simp only [VRel] at h
 | .nilIface,_,_,i,hi=>by simp [AVal.ids] at hi
 | .agg cs,v,h,i,hi=>by simp only [VRel] at h;obtain ⟨_,_,h1,_⟩:=h;exact VRels.ids_lt h1 i (by simpa [AVal.ids] using hi)
 | .tuple vs,v,h,i,hi=>by simp only [VRel] at h;obtain ⟨_,_,h1⟩:=h;exact VRels.ids_lt h1 i (by simpa [AVal.ids] using hi)
theorem VRels.ids_lt:∀ {aZ:List AVal} {l:List Value},VRels E μ aZ l→∀ i ∈ AVal.idsL aZ,i < μ.length
 | [],_,_,i,hi=>by simp [AVal.idsL] at hi
 | a :: aZ,l,h,i,hi=>by
  simp only [VRels] at h;obtain ⟨_,_,_,h1,h2⟩:=h;simp only [AVal.idsL,bz] at hi;rcases hi with hi | hi
  ·exact VRel.ids_lt h1 i hi
  ·exact VRels.ids_lt h2 i hi
end
mutual
theorem ji:∀ {a:AVal} {v:Value},(∀ i ∈ a.ids,i < μ.length→μ'[i]? = μ[i]?)→VRel E μ a v→VRel E μ' a v
 | .bool _,_,_,h=>by simpa only [VRel] using h
 | .int _ _,_,_,h=>by simpa only [VRel] using h
 | .str _,_,_,h=>by simpa only [VRel] using h
 | .ptr none,_,_,h=>by simpa only [VRel] using h
 | .ptr (some (j,o)),v,hi,h=>by have h3:=hi j (by simp [AVal.ids]);simp only [VRel,ARel] at h ⊢;obtain ⟨a,e,x,hx,hm⟩:=h;exact ⟨a,e,x,(h3 (ah hx)).trans hx,hm⟩
 | .slice none _ _,_,_,h=>by simpa only [VRel] using h
 | .slice (some (j,o)) n c,v,hi,h=>by have h3:=hi j (by simp [AVal.ids]);simp only [VRel,ARel] at h ⊢;obtain ⟨a,cap,e,h1,h2⟩:=h;have h4:=h3 h1.1;rw [h4];refine ⟨a,cap,e,⟨?_,h1.2⟩,h2⟩;rw [ai h1.1] at h4;exact ah h4
 | .map none,_,_,h=>by simpa only [VRel] using h
 | .map (some j),v,hi,h=>by have h3:=hi j (by simp [AVal.ids]);simp only [VRel] at h ⊢;obtain ⟨b,x,e,hx,hm⟩:=h;exact ⟨b,x,e,(h3 (ah hx)).trans hx,hm⟩
 | .yield j,v,hi,h=>by have h3:=hi j (by simp [AVal.ids]);simp only [VRel] at h ⊢;obtain ⟨b,x,e,hx,hm⟩:=h;exact ⟨b,x,e,(h3 (ah hx)).trans hx,hm⟩
 | .func g f c,v,hi,h=>by simp only [VRel] at h ⊢;obtain ⟨fid,f',c',e,hg,h1,h2⟩:=h;exact ⟨fid,f',c',e,hg,rk (fun i hi'=>hi i (by simp [AVal.ids,hi'])) h1,rk (fun i hi'=>hi i (by simp [AVal.ids,hi'])) h2⟩
 | .nilFunc,_,_,h=>by simpa only [VRel] using h
 | .iface _ _,_,_,h=>by simp only [VRel] at h
 | .nilIface,_,_,h=>by simpa only [VRel] using h
 | .agg cs,v,hi,h=>by simp only [VRel] at h ⊢;obtain ⟨cs',e,h1,h2⟩:=h;exact ⟨cs',e,rk (fun i hi'=>hi i (by simp [AVal.ids,hi'])) h1,h2⟩
 | .tuple vs,v,hi,h=>by simp only [VRel] at h ⊢;obtain ⟨cs',e,h1⟩:=h;exact ⟨cs',e,rk (fun i hi'=>hi i (by simp [AVal.ids,hi'])) h1⟩
theorem rk:∀ {aZ:List AVal} {l:List Value},(∀ i ∈ AVal.idsL aZ,i < μ.length→μ'[i]? = μ[i]?)→VRels E μ aZ l→VRels E μ' aZ l
 | [],_,_,h=>by simpa only [VRels] using h
 | a :: aZ,l,hi,h=>by simp only [VRels] at h ⊢;obtain ⟨v,r,e,h1,h2⟩:=h;exact ⟨v,r,e,ji (fun i hi'=>hi i (by simp [AVal.idsL,hi'])) h1,rk (fun i hi'=>hi i (by simp [AVal.idsL,hi'])) h2⟩
end
end
section
variable {E:Env} {μ μ':MM} {n:Nat}
mutual
theorem yl (hm:∀ i,i < n→μ'[i]? = μ[i]?):∀ {a:AVal} {v:Value},a.under n=true→VRel E μ' a v→VRel E μ a v
 | .bool b,v,_,h=>by simpa only [VRel] using h
 | .int k m,v,_,h=>by simpa only [VRel] using h
 | .str s,v,_,h=>by simpa only [VRel] using h
 | .ptr none,v,_,h=>by simpa only [VRel] using h
 | .ptr (some (i,o)),v,hu,h=>by simp only [AVal.under,decide_eq_true_eq] at hu;simp only [VRel,ARel] at h ⊢;rw [hm i hu] at h; exact h
 | .slice none m c,v,_,h=>by simpa only [VRel] using h
 | .slice (some (i,o)) m c,v,hu,h=>by
  simp only [AVal.under,decide_eq_true_eq] at hu;simp only [VRel,ARel] at h ⊢;rw [hm i hu] at h;obtain ⟨a,cap,e,h1,h2⟩:=h;refine ⟨a,cap,e,⟨?_,h1.2⟩,h2⟩;have h3:=hm i hu;rcases bh i μ.length with h4 | h4
  ·exact h4
  ·rw [bw h4,ai h1.1] at h3; cases h3
 | .map none,v,_,h=>by simpa only [VRel] using h
 | .map (some i),v,hu,h=>by simp only [AVal.under,decide_eq_true_eq] at hu;simp only [VRel] at h ⊢;rw [hm i hu] at h; exact h
 | .yield i,v,hu,h=>by simp only [AVal.under,decide_eq_true_eq] at hu;simp only [VRel] at h ⊢;rw [hm i hu] at h; exact h
 | .func g f c,v,hu,h=>by simp only [AVal.under,bc] at hu;simp only [VRel] at h ⊢;obtain ⟨fid,f',c',e,hg,h1,h2⟩:=h;exact ⟨fid,f',c',e,hg,oq hm hu.1 h1,oq hm hu.2 h2⟩
 | .nilFunc,v,_,h=>by simpa only [VRel] using h
 | .iface _ _,v,_,h=>by simp only [VRel] at h
 | .nilIface,v,_,h=>by simpa only [VRel] using h
 | .agg cs,v,hu,h=>by simp only [AVal.under] at hu;simp only [VRel] at h ⊢;obtain ⟨cs',e,h1,h2⟩:=h;exact ⟨cs',e,oq hm hu h1,h2⟩
 | .tuple vs,v,hu,h=>by simp only [AVal.under] at hu;simp only [VRel] at h ⊢;obtain ⟨cs',e,h1⟩:=h;exact ⟨cs',e,oq hm hu h1⟩
theorem oq (hm:∀ i,i < n→μ'[i]? = μ[i]?):∀ {aZ:List AVal} {l:List Value},AVal.unders n aZ=true→VRels E μ' aZ l→VRels E μ aZ l
 | [],l,_,h=>by simpa only [VRels] using h
 | a :: aZ,l,hu,h=>by simp only [AVal.unders,bc] at hu;simp only [VRels] at h ⊢;obtain ⟨v,r,e,h1,h2⟩:=h;exact ⟨v,r,e,yl hm hu.1 h1,oq hm hu.2 h2⟩
end
theorem isOne_ren (f:Nat→Nat) (a:AVal):(a.ren f).isOne=a.isOne:=by
 cases a with
 | ptr p=>cases p <;> simp [AVal.ren,AVal.isOne]
 | slice p m c=>cases p <;> simp [AVal.ren,AVal.isOne]
 | map p=>cases p <;> simp [AVal.ren,AVal.isOne]
 | _=>simp [AVal.ren,AVal.isOne]
mutual
theorem ql (f:Nat→Nat):∀ {a:AVal} {v:Value},(∀ i ∈ a.ids,i < μ.length→μ'[f i]? = μ[i]?)→VRel E μ a v→VRel E μ' (a.ren f) v
 | .bool b,v,_,h=>by simpa only [AVal.ren,VRel] using h
 | .int k m,v,_,h=>by simpa only [AVal.ren,VRel] using h
 | .str s,v,_,h=>by simpa only [AVal.ren,VRel] using h
 | .ptr none,v,_,h=>by simpa only [AVal.ren,VRel] using h
 | .ptr (some (i,o)),v,hi,h=>by have h3:=hi i (by simp [AVal.ids]);simp only [AVal.ren,VRel,ARel] at h ⊢;obtain ⟨a,e,x,hx,hm⟩:=h;exact ⟨a,e,x,(h3 (ah hx)).trans hx,hm⟩
 | .slice none m c,v,_,h=>by simpa only [AVal.ren,VRel] using h
 | .slice (some (i,o)) m c,v,hi,h=>by have h3:=hi i (by simp [AVal.ids]);simp only [AVal.ren,VRel,ARel] at h ⊢;obtain ⟨a,cap,e,h1,h2⟩:=h;have h4:=h3 h1.1;rw [h4];refine ⟨a,cap,e,⟨?_,h1.2⟩,h2⟩;rw [ai h1.1] at h4;exact ah h4
 | .map none,v,_,h=>by simpa only [AVal.ren,VRel] using h
 | .map (some i),v,hi,h=>by have h3:=hi i (by simp [AVal.ids]);simp only [AVal.ren,VRel] at h ⊢;obtain ⟨b,x,e,hx,hm⟩:=h;exact ⟨b,x,e,(h3 (ah hx)).trans hx,hm⟩
 | .yield i,v,hi,h=>by have h3:=hi i (by simp [AVal.ids]);simp only [AVal.ren,VRel] at h ⊢;obtain ⟨b,x,e,hx,hm⟩:=h;exact ⟨b,x,e,(h3 (ah hx)).trans hx,hm⟩
 | .func g a c,v,hi,h=>by simp only [AVal.ren,VRel] at h ⊢;obtain ⟨fid,f',c',e,hg,h1,h2⟩:=h;exact ⟨fid,f',c',e,hg,uh f (fun i hi'=>hi i (by simp [AVal.ids,hi'])) h1,uh f (fun i hi'=>hi i (by simp [AVal.ids,hi'])) h2⟩
 | .nilFunc,v,_,h=>by simpa only [AVal.ren,VRel] using h
 | .iface _ _,v,_,h=>by simp only [VRel] at h
 | .nilIface,v,_,h=>by simpa only [AVal.ren,VRel] using h
 | .agg cs,v,hi,h=>by simp only [AVal.ren,VRel] at h ⊢;obtain ⟨cs',e,h1,h2⟩:=h;exact ⟨cs',e,uh f (fun i hi'=>hi i (by simp [AVal.ids,hi'])) h1,rens_one f h2⟩
 | .tuple vs,v,hi,h=>by simp only [AVal.ren,VRel] at h ⊢;obtain ⟨cs',e,h1⟩:=h;exact ⟨cs',e,uh f (fun i hi'=>hi i (by simp [AVal.ids,hi'])) h1⟩
theorem uh (f:Nat→Nat):∀ {aZ:List AVal} {l:List Value},(∀ i ∈ AVal.idsL aZ,i < μ.length→μ'[f i]? = μ[i]?)→VRels E μ aZ l→VRels E μ' (AVal.renL f aZ) l
 | [],l,_,h=>by simpa only [AVal.renL,VRels] using h
 | a :: aZ,l,hi,h=>by simp only [AVal.renL,VRels] at h ⊢;obtain ⟨v,r,e,h1,h2⟩:=h;exact ⟨v,r,e,ql f (fun i hi'=>hi i (by simp [AVal.idsL,hi'])) h1,uh f (fun i hi'=>hi i (by simp [AVal.idsL,hi'])) h2⟩
theorem rens_one (f:Nat→Nat):∀ {aZ:List AVal},(∀ x ∈ aZ,x.isOne=true)→∀ x ∈ AVal.renL f aZ,x.isOne=true
 | [],_=>by simp [AVal.renL]
 | a :: aZ,h=>by
  intro x hx;simp only [AVal.renL,cj] at hx;rcases hx with rfl | hx
  ·rw [isOne_ren]; exact h a (a8 ..)
  ·exact rens_one f (fun y hy=>h y (bd _ hy)) x hx
end
theorem renL_get (f:Nat→Nat):∀ (aZ:List AVal) (k:Nat),(AVal.renL f aZ)[k]? = (aZ[k]?).map (AVal.ren f)
 | [],k=>by simp [AVal.renL]
 | a :: aZ,0=>by simp [AVal.renL]
 | a :: aZ,k+1=>by simpa [AVal.renL] using renL_get f aZ k
theorem zm (f:Nat→Nat):∀ (aZ:List AVal),(AVal.renL f aZ).length=aZ.length
 | []=>rfl
 | a :: aZ=>by simp [AVal.renL,zm f aZ]
theorem n6:∀ {aZ:List AVal} {k:Nat} {a:AVal} {i:Nat},aZ[k]? = some a→i ∈ a.ids→i ∈ AVal.idsL aZ
 | [],k,a,i,h,_=>by simp at h
 | x :: aZ,0,a,i,h,hi=>by simp at h; subst h; simp [AVal.idsL,hi]
 | x :: aZ,k+1,a,i,h,hi=>by simp at h;simp [AVal.idsL,n6 h hi]
end
end Go.Abs
