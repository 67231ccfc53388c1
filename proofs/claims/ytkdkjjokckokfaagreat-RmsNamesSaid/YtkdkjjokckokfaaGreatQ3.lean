/-
  Texts joined.
-/
import Derived.Test.YtkdkjjokckokfaaGreatQ0
import Derived.Test.YtkdkjjokckokfaaGreatQ2
import Derived.MapKept
import Derived.DeepKeys
import Derived.OrdersIn
import Derived.LoopNIn
import Derived.RangeFuncRecord
set_option linter.unusedVariables false
set_option linter.unusedSimpArgs false
set_option maxRecDepth 100000
namespace Go.Abs
section
variable {E:Env} {lo:Nat} {ν:Fr} {μ:MM} {s:Slots} {h:Heap} {a:Act} {w:World}
def FitV (n:Option Nat) (x:AVal):Prop:=match n with
 | some _=>∃ cs,x = .agg cs
 | none=>x.isOne=true
theorem vd {cs:List AVal} {o:Nat} {n:Option Nat} {r:AVal} (h1:∀ x ∈ cs,x.isOne=true) (h:Abs.part cs o n=some r):FitV n r:=by
 cases n with
 | none=>simp only [Abs.part] at h; exact h1 _ (bn h)
 | some k =>
  simp only [Abs.part] at h;split at h
  ·cases h; exact ⟨_,rfl⟩
  ·cases h
theorem kv:∀ {ks:List CK} {aZ:List AVal},areKeys ks aZ=true→aZ.length=ks.length
 | [],[],_=>rfl
 | _ :: ks,_ :: aZ,h=>by simp only [areKeys,a7] at h;simp [kv h.2]
 | [],_ :: _,h=>by simp [areKeys] at h
 | _ :: _,[],h=>by simp [areKeys] at h
theorem nq:∀ {k1 k2:List CK} {aZ:List AVal},areKeys (k1++k2) aZ=true→areKeys k1 (aZ.take k1.length)=true∧areKeys k2 (aZ.drop k1.length)=true
 | [],k2,aZ,h=>by simpa [areKeys] using h
 | c :: k1,k2,[],h=>by simp [areKeys] at h
 | c :: k1,k2,a :: aZ,h=>by simp only [d7,areKeys,a7] at h;obtain ⟨h1,h2⟩:=nq h.2;simp only [bt,ku,List.drop_succ_cons,areKeys,a7];exact ⟨⟨h.1,h1⟩,h2⟩
theorem sk:∀ (k:Nat) {aZ bs:List AVal} {r:Bool},k≤aZ.length→aZ.length=bs.length→akeyL aZ bs=some r→∃ r1,akeyL (aZ.take k) (bs.take k)=some r1∧(r1=true→akeyL (aZ.drop k) (bs.drop k)=some r)∧(r1=false→r=false)
 | 0,aZ,bs,r,_,_,h=>⟨true,by simp [akeyL],fun _=>by simpa using h,fun e=>by cases e⟩
 | k+1,[],bs,r,hk,_,_=>by simp at hk
 | k+1,a :: aZ,[],r,_,hl,_=>by simp at hl
 | k+1,a :: aZ,b :: bs,r,hk,hl,h=>by
  simp only [akeyL] at h;cases hab:akey1 a b with
  | none=>rw [hab] at h; cases h
  | some q =>
   rw [hab] at h;cases q with
   | false =>
    cases h;exact ⟨false,by simp [akeyL,hab],(fun e=>by cases e),(fun _=>rfl)⟩
   | true =>
    obtain ⟨r1,h1,h2,h3⟩:=sk k (by simpa using hk) (by simpa using hl) h;exact ⟨r1,by simp [akeyL,hab,h1],h2,h3⟩
def EqOK (E:Env) (d:Nat) (t:TypeId) (l:List CK):Prop :=
 ∀ (μ:MM) (w:World) (n:Option Nat) (x y:AVal) (u v:Value) (aZ bs:List AVal) (r:Bool),partT E.P t=some n→FitV n x→FitV n y→VRel E μ x u→VRel E μ y v→x.cells? = some aZ→y.cells? = some bs →
  aZ.length=bs.length→areKeys l aZ=true→akeyL aZ bs=some r→(Op.equalIn d t u v).run E.P w = .ok r w
theorem eq_one {d:Nat} {t:TypeId} {c:CK} {l:List CK} (hl:l=[c]) (ht:(c = .b∧E.P.underlying t=some .bool)∨(c = .i∧∃ k,E.P.underlying t=some (.int k))∨(c = .s∧E.P.underlying t=some .string)):EqOK E (d+1) t l:=by
 intro μ w n x y u v aZ bs r hn fx fy hx hy cx cy hlen hk hr;subst hl
 have hn0:n=none:=by unfold partT at hn;rcases ht with ⟨_,ht⟩ | ⟨_,k,ht⟩ | ⟨_,ht⟩ <;> (rw [ht] at hn; simp at hn; simp [← hn])
 subst hn0
 have one:∀ {z:AVal} {zs:List AVal},FitV none z→z.cells? = some zs→zs=[z]:=by intro z zs hz hc;have hz:z.isOne=true:=hz;cases z <;> simp [AVal.cells?,AVal.isOne] at hc hz <;> exact hc.symm
 have e1:=one fx cx;have e2:=one fy cy;subst e1; subst e2;simp only [areKeys,Bool.and_true] at hk;simp only [akeyL] at hr
 have hr2:akey1 x y=some r:=by
  cases hab:akey1 x y with
  | none=>rw [hab] at hr; cases hr
  | some q =>
   rw [hab] at hr;cases q with
   | false=>exact hr
   | true=>exact hr
 clear hr;rcases ht with ⟨rfl,ht⟩ | ⟨rfl,k,ht⟩ | ⟨rfl,ht⟩
 ·cases x <;> simp only [CK.is,de] at hk
  cases y <;> simp only [akey1,reduceCtorEq] at hr2
  simp only [VRel] at hx hy;subst hx; subst hy;injection hr2 with hr2;rw [run_equalIn_bool' w d t _ _ ht,← hr2];congr 1
 ·cases x <;> simp only [CK.is,de] at hk
  cases y <;> simp only [akey1,reduceCtorEq] at hr2
  simp only [VRel] at hx hy;subst hx; subst hy;split at hr2
  ·rename_i hkk;subst hkk;injection hr2 with hr2;rw [run_equalIn_int w d t _ _ _ _ ht,← hr2];congr 1
  ·cases hr2
 ·cases x <;> simp only [CK.is,de] at hk
  cases y <;> simp only [akey1,reduceCtorEq] at hr2
  simp only [VRel] at hx hy;subst hx; subst hy;injection hr2 with hr2;rw [run_equalIn_string w d t _ _ ht,← hr2];congr 1;rw [mh]; simp [ByteArray.toList_eq]
theorem ri {cs:List AVal} {o k:Nat} {n:Option Nat} {r:AVal} (h1:∀ x ∈ cs,x.isOne=true) (hk:n=some k∨(n=none∧k=1)) (h:Abs.part cs o n=some r):r.cells? = some ((cs.drop o).take k):=by
 rcases hk with rfl | ⟨rfl,rfl⟩
 ·simp only [Abs.part] at h;split at h
  ·cases h; rfl
  ·cases h
 ·simp only [Abs.part] at h;have h2:=h1 _ (bn h)
  have h3:(cs.drop o).take 1=[r]:=by have hlt:=ah h;rw [jw hlt,ku];rw [ai hlt] at h;simp [dr h]
  rw [h3];cases r <;> simp [AVal.cells?,AVal.isOne] at h2 ⊢
theorem ve {cs:List AVal} {o k:Nat} {n:Option Nat} (hk:n=some k∨(n=none∧k=1)) (ho:o+k≤cs.length):∃ r,Abs.part cs o n=some r:=by
 rcases hk with rfl | ⟨rfl,rfl⟩
 ·exact ⟨_,by simp only [Abs.part]; rw [if_pos ho]⟩
 ·exact ⟨_,by simp only [Abs.part]; exact ai (by omega)⟩
theorem wy {P:Program} {n:Nat} {t:TypeId} {l:List CK} (h:ckOf P n t=some l) (hs:sizeT P t=some l.length):∃ m,partT P t=some m∧(m=some l.length∨(m=none∧l.length=1)):=by
 cases n with
 | zero=>simp [ckOf] at h
 | succ n =>
  unfold partT;simp only [ckOf] at h;split at h <;> (try cases h)
  ·rename_i ht; rw [ht]; exact ⟨none,rfl,.inr ⟨rfl,rfl⟩⟩
  ·rename_i ht; rw [ht]; exact ⟨none,rfl,.inr ⟨rfl,rfl⟩⟩
  ·rename_i ht; rw [ht]; exact ⟨none,rfl,.inr ⟨rfl,rfl⟩⟩
  ·rename_i ht; rw [ht]; exact ⟨some l.length,by simp [hs],.inl rfl⟩
  ·rename_i ht; rw [ht]; exact ⟨some l.length,by simp [hs],.inl rfl⟩
theorem eq_fields {d:Nat} {g:TypeId→Option (List CK)} (hg:∀ t l,g t=some l→EqOK E d t l) (hgp:∀ t l,g t=some l→sizeT E.P t=some l.length→∃ m,partT E.P t=some m∧(m=some l.length∨(m=none∧l.length=1)))
  {A B:List AVal} {xs ys:Array Value} (hA:VRels E μ A xs.toList) (hB:VRels E μ B ys.toList) (hA1:∀ x ∈ A,x.isOne=true) (hB1:∀ x ∈ B,x.isOne=true) (hlen:A.length=B.length) :
  ∀ (fs:List Field) (off:Nat) (l:List CK) (r:Bool),ckFields g E.P off fs=some l→areKeys l (A.drop off)=true→akeyL (A.drop off) (B.drop off)=some r→(Op.eqFields d xs ys fs).run E.P w = .ok r w
 | [],off,l,r,hl,hk,hr=>by
  simp only [ckFields] at hl; cases hl;have h1:=kv hk;have e1:A.drop off=[]:=cg (by simpa using h1);rw [e1] at hr;cases hb:B.drop off with
  | nil=>rw [hb] at hr; simp [akeyL] at hr; subst hr; simp [Op.eqFields]
  | cons b bs=>rw [hb] at hr; simp [akeyL] at hr
 | f :: fs,off,l,r,hl,hk,hr=>by
  simp only [ckFields] at hl;split at hl;case h_2=>cases hl
  rename_i l1 hl1;split at hl;case isFalse=>cases hl
  rename_i hh;obtain ⟨ho,hn,hs,h0⟩:=hh;rw [ae] at hl;obtain ⟨l2,hl2,rfl⟩:=hl;obtain ⟨k1,k2⟩:=nq hk;have hkl:=kv hk;simp only [gg,aq] at hkl;obtain ⟨m,hm,hmk⟩:=hgp f.type l1 hl1 hs;have hoff:off+l1.length≤A.length:=by omega
  obtain ⟨x,hx⟩:=ve (cs:=A) (o:=off) hmk hoff;obtain ⟨y,hy⟩:=ve (cs:=B) (o:=off) hmk (by omega);obtain ⟨u,p1,q1⟩:=po w hm hA hA1 hx;obtain ⟨v,p2,q2⟩:=po w hm hB hB1 hy;obtain ⟨r1,s1,s2,s3⟩:=sk l1.length (by simp; omega) (by simp; omega) hr;have he:=hg f.type l1 hl1 μ w m x y u v _ _ r1 hm (vd hA1 hx) (vd hB1 hy) q1 q2 (ri hA1 hmk hx) (ri hB1 hmk hy) (by simp; omega) k1 s1;rw [← ho] at p1 p2;simp only [Op.eqFields,hn,ne_eq,not_false_eq_true,if_true,Sem.run_bind,p1,p2,he,Result.andThen_ok];cases r1 with
  | false=>rw [s3 rfl]; simp
  | true =>
   have:=eq_fields hg hgp hA hB hA1 hB1 hlen fs (off+l1.length) l2 r hl2 (by rw [iq] at k2; exact k2) (by have:=s2 rfl; rwa [iq,iq] at this);simpa using this
theorem eq_items {d:Nat} {e:TypeId} {le:List CK} (he:EqOK E d e le) {m:Option Nat} (hm:partT E.P e=some m) (hmk:m=some le.length∨(m=none∧le.length=1)) (h0:0 < le.length) (hc:E.P.cellsOf e=le.length)
  {A B:List AVal} {xs ys:Array Value} (hA:VRels E μ A xs.toList) (hB:VRels E μ B ys.toList) (hA1:∀ x ∈ A,x.isOne=true) (hB1:∀ x ∈ B,x.isOne=true) (hlen:A.length=B.length) :
  ∀ (k j:Nat) (r:Bool),areKeys (List.replicate k le).flatten (A.drop (j*le.length))=true→akeyL (A.drop (j*le.length)) (B.drop (j*le.length))=some r →
   (Op.eqItems d e (E.P.cellsOf e) xs ys (List.range' j k)).run E.P w = .ok r w
 | 0,j,r,hk,hr=>by
  have h1:=kv hk;have e1:A.drop (j*le.length)=[]:=cg (by simpa using h1);rw [e1] at hr;cases hb:B.drop (j*le.length) with
  | nil=>rw [hb] at hr; simp [akeyL] at hr; subst hr; simp [Op.eqItems]
  | cons b bs=>rw [hb] at hr; simp [akeyL] at hr
 | k+1,j,r,hk,hr=>by
  rw [ue,oo] at hk;obtain ⟨k1,k2⟩:=nq hk;have hkl:=kv hk;simp only [gg,aq] at hkl;have hoff:j*le.length+le.length≤A.length:=by omega
  obtain ⟨x,hx⟩:=ve (cs:=A) (o:=j*le.length) hmk hoff;obtain ⟨y,hy⟩:=ve (cs:=B) (o:=j*le.length) hmk (by omega);obtain ⟨u,p1,q1⟩:=po w hm hA hA1 hx;obtain ⟨v,p2,q2⟩:=po w hm hB hB1 hy;obtain ⟨r1,s1,s2,s3⟩:=sk le.length (by simp; omega) (by simp; omega) hr;have hq:=he μ w m x y u v _ _ r1 hm (vd hA1 hx) (vd hB1 hy) q1 q2 (ri hA1 hmk hx) (ri hB1 hmk hy) (by simp; omega) k1 s1;simp only [List.range'_succ,Op.eqItems,hc,Sem.run_bind,p1,p2,hq,Result.andThen_ok];cases r1 with
  | false=>rw [s3 rfl]; simp
  | true =>
   have e1:j*le.length+le.length=(j+1)*le.length:=by rw [gl,Nat.one_mul]
   have:=eq_items he hm hmk h0 hc hA hB hA1 hB1 hlen k (j+1) r (by rw [iq,e1] at k2; exact k2) (by have:=s2 rfl; rwa [iq,iq,e1] at this);rw [hc] at this;simpa using this
theorem eq_ck:∀ (n:Nat) (t:TypeId) (l:List CK),ckOf E.P n t=some l→∀ d,EqOK E (d+n) t l
 | 0,t,l,h,d=>by simp [ckOf] at h
 | n+1,t,l,h,d=>by
  have h0:=h;simp only [ckOf] at h;split at h <;> (try cases h)
  ·rename_i ht; exact eq_one rfl (.inl ⟨rfl,ht⟩)
  ·rename_i ht; exact eq_one rfl (.inr (.inl ⟨rfl,_,ht⟩))
  ·rename_i ht; exact eq_one rfl (.inr (.inr ⟨rfl,ht⟩))
  ·rename_i fs ht;split at h
   ·cases h
   rename_i hst;intro μ w m x y u v aZ bs r hm fx fy hx hy cx cy hlen hk hr
   have hmm:∃ k,m=some k:=by unfold partT at hm;rw [ht] at hm;simp only [ae] at hm;obtain ⟨k,_,rfl⟩:=hm;exact ⟨k,rfl⟩
   obtain ⟨k,rfl⟩:=hmm;obtain ⟨A,rfl⟩:=fx;obtain ⟨B,rfl⟩:=fy;simp only [AVal.cells?] at cx cy; cases cx; cases cy;simp only [VRel] at hx hy;obtain ⟨xs,rfl,hA,hA1⟩:=hx;obtain ⟨ys,rfl,hB,hB1⟩:=hy;have hfs:E.P.fieldsOf t=fs:=by simp [Program.fieldsOf,ht]
   have:=eq_fields (d:=d+n) (w:=w) (g:=ckOf E.P n) (fun t l h=>eq_ck n t l h d) (fun t l h hs=>wy h hs) hA hB hA1 hB1 hlen fs.toList 0 l r h (by simpa using hk) (by simpa using hr);rw [show d+(n+1)=(d+n)+1 from rfl,run_equalIn_struct w (d+n) t xs ys (by rw [hfs]; exact ht) (by simpa using hst),hfs];exact this
  ·rename_i k e ht;split at h;case h_2=>cases h
   rename_i le hle;split at h;case isFalse=>cases h
   rename_i hs;cases h;intro μ w m x y u v aZ bs r hm fx fy hx hy cx cy hlen hk hr
   have hmm:∃ k,m=some k:=by unfold partT at hm;rw [ht] at hm;simp only [ae] at hm;obtain ⟨k,_,rfl⟩:=hm;exact ⟨k,rfl⟩
   obtain ⟨q,rfl⟩:=hmm;obtain ⟨A,rfl⟩:=fx;obtain ⟨B,rfl⟩:=fy;simp only [AVal.cells?] at cx cy; cases cx; cases cy;simp only [VRel] at hx hy;obtain ⟨xs,rfl,hA,hA1⟩:=hx;obtain ⟨ys,rfl,hB,hB1⟩:=hy;obtain ⟨m',hm',hmk⟩:=wy hle hs.1
   have hinfo:∃ i,E.P.info? e=some i∧i.size=le.length:=by have:=hs.1;unfold sizeT at this;rw [ae] at this;exact this
   obtain ⟨i,hi,hisz⟩:=hinfo;have hc:E.P.cellsOf e=le.length:=by simp [Program.cellsOf,hi,hisz]
   have:=eq_items (w:=w) (eq_ck n e le hle d) hm' hmk hs.2 hc hA hB hA1 hB1 hlen k 0 r (by simpa using hk) (by simpa using hr);rw [show d+(n+1)=(d+n)+1 from rfl,run_equalIn_array w (d+n) xs ys ht hi,List.range_eq_range'];exact this
theorem key_ck {P:Program} {t:TypeId} {kn:KeyT} (h:keyT P t=some kn):(∃ c,kn = .one c∧ckOf P 2 t=some [c]∧partT P t=some none)∨(∃ l m,kn = .agg l∧ckOf P 2 t=some l∧(partT P t=some (some m)∨partT P t=none)):=by
 unfold keyT at h;split at h
 ·cases h
 split at h <;> (try cases h)
 ·rename_i ht; exact .inl ⟨.b,rfl,by simp [ckOf,ht],by simp [partT,ht]⟩
 ·rename_i ht; exact .inl ⟨.i,rfl,by simp [ckOf,ht],by simp [partT,ht]⟩
 ·rename_i ht; exact .inl ⟨.s,rfl,by simp [ckOf,ht],by simp [partT,ht]⟩
 ·rename_i ht;rw [ae] at h;obtain ⟨l,hl,rfl⟩:=h;cases hs:sizeT P t with
  | none=>exact .inr ⟨l,0,rfl,hl,.inr (by simp [partT,ht,hs])⟩
  | some m=>exact .inr ⟨l,m,rfl,hl,.inl (by simp [partT,ht,hs])⟩
theorem key_size {P:Program} {t:TypeId} {kn:KeyT} (h:keyT P t=some kn):sizeT P t≠none:=by
 unfold keyT at h;split at h
 ·cases h
 ·assumption
theorem key_eq {t:TypeId} {kn:KeyT} {x y:AVal} {u v:Value} {r:Bool} (hk:keyT E.P t=some kn) (hx:VRel E μ x u) (hy:VRel E μ y v) (hkx:isKey kn x=true) (hr:akey x y=some r) (w:World) :
  (Op.equal t u v).run E.P w = .ok r w:=by
 rcases key_ck hk with ⟨c,rfl,hc,hp⟩ | ⟨l,m,rfl,hc,hp⟩
 ·have he:=eq_ck 2 t _ hc 9998;have h1:x.isOne=true∧x.cells? = some [x]:=by cases x <;> cases c <;> simp [isKey,CK.is] at hkx <;> simp [AVal.isOne,AVal.cells?]
  have h2:akey1 x y=some r:=by cases x <;> first | exact hr | (simp [AVal.isOne] at h1)
  have h3:y.isOne=true∧y.cells? = some [y]:=by cases x <;> cases y <;> simp [akey1] at h2 <;> simp [AVal.isOne,AVal.cells?]
  refine he μ w none x y u v [x] [y] r hp h1.1 h3.1 hx hy h1.2 h3.2 rfl (by simpa [areKeys,isKey] using hkx) ?_;simp only [akeyL,h2];cases r <;> rfl
 ·have he:=eq_ck 2 t _ hc 9998
  have hp':partT E.P t=some (some m):=by
   rcases hp with hp | hp
   ·exact hp
   ·exfalso
    have:∃ ty,E.P.underlying t=some ty:=by
     cases hu:E.P.underlying t with
     | none=>simp [keyT,hu] at hk
     | some ty=>exact ⟨ty,rfl⟩
    obtain ⟨ty,hty⟩:=this;unfold partT at hp;rw [hty] at hp;split at hp
    ·rw [zd] at hp; exact key_size hk hp
    ·rw [zd] at hp; exact key_size hk hp
    ·cases hp
    ·rename_i e; cases e
  cases x <;> simp only [isKey,de] at hkx
  cases y <;> simp only [akey,akey1,reduceCtorEq] at hr
  split at hr
  ·rename_i hlen;exact he μ w (some m) _ _ u v _ _ r hp' ⟨_,rfl⟩ ⟨_,rfl⟩ hx hy rfl rfl hlen hkx hr
  ·cases hr
theorem qk {t:TypeId} {kn:KeyT} {x:AVal} {u:Value} (hk:keyT E.P t=some kn) (hx:VRel E μ x u) (hkx:isKey kn x=true) (em:Bool) (n:Nat) (w:World):(Instr.checkKey em (n+2) t u).run E.P w = .ok () w:=by
 have basic:∀ (n:Nat) (t:TypeId) (u:Value) (w:World),(E.P.underlying t=some .bool∨(∃ k,E.P.underlying t=some (.int k))∨E.P.underlying t=some .string)→(Instr.checkKey em (n+1) t u).run E.P w = .ok () w:=by intro n t u w ht;rcases ht with ht | ⟨k,ht⟩ | ht <;> (unfold Instr.checkKey; simp [run_underlying ht])
 unfold keyT at hk;split at hk
 ·cases hk
 split at hk <;> (try cases hk)
 ·rename_i ht; exact basic _ _ _ _ (.inl ht)
 ·rename_i k ht; exact basic _ _ _ _ (.inr (.inl ⟨_,ht⟩))
 ·rename_i ht; exact basic _ _ _ _ (.inr (.inr ht))
 ·rename_i fs ht;rw [ae] at hk;obtain ⟨l,hl,rfl⟩:=hk;simp only [ckOf,ht] at hl;split at hl
  ·cases hl
  cases x <;> simp only [isKey,de] at hkx
  rename_i A;simp only [VRel] at hx;obtain ⟨xs,rfl,hA,hA1⟩:=hx;rw [show n+2=(n+1)+1 from rfl,Instr.checkKey];simp only [Sem.run_bind,run_underlying ht,Result.andThen_ok];rw [← Array.forIn_toList]
  have key:∀ (fs:List Field) (off:Nat) (l:List CK),ckFields (ckOf E.P 1) E.P off fs=some l→areKeys l (A.drop off)=true →
    (forIn fs PUnit.unit fun f r=>do
     if f.name ≠ "_" then do
      let a ← Go.part f.type xs f.offset
      Instr.checkKey em (n+1) f.type a
      pure (ForInStep.yield PUnit.unit)
     else pure (ForInStep.yield PUnit.unit):Sem PUnit).run E.P w = .ok () w:=by
   intro fs;induction fs with
   | nil=>intro off l _ _; simp
   | cons f fs ih =>
    intro off l hl hk;simp only [ckFields] at hl;split at hl;case h_2=>cases hl
    rename_i l1 hl1;split at hl;case isFalse=>cases hl
    rename_i hh;obtain ⟨ho,hn,hs,h0⟩:=hh;rw [ae] at hl;obtain ⟨l2,hl2,rfl⟩:=hl;obtain ⟨k1,k2⟩:=nq hk;have hkl:=kv hk;simp only [gg,aq] at hkl;obtain ⟨m,hm,hmk⟩:=wy hl1 hs;obtain ⟨x,hx⟩:=ve (cs:=A) (o:=off) hmk (by omega);obtain ⟨u,p1,_⟩:=po w hm hA hA1 hx;rw [← ho] at p1
    have hb:(Instr.checkKey em (n+1) f.type u).run E.P w = .ok () w:=by
     apply basic;simp only [ckOf] at hl1;split at hl1 <;> (try cases hl1)
     ·exact .inl (by assumption)
     ·exact .inr (.inl ⟨_,by assumption⟩)
     ·exact .inr (.inr (by assumption))
     ·rename_i fs2 hu;split at hl1
      ·cases hl1
      ·cases hfs:fs2.toList with
       | nil=>rw [hfs] at hl1; simp [ckFields] at hl1; subst hl1; simp at h0
       | cons q qs=>rw [hfs] at hl1; simp [ckFields] at hl1
    simp only [List.forIn_cons,Sem.run_bind,hn,ne_eq,not_false_eq_true,if_true,p1,hb,Result.andThen_ok,Sem.run_pure];exact ih (off+l1.length) l2 hl2 (by rw [iq] at k2; exact k2)
  have:=key fs.toList 0 l hl (by simpa using hkx);have h2:∀ (S:Sem PUnit),S.run E.P w = .ok () w→(S.run E.P w).andThen (fun _ w'=>Result.ok () w') = .ok () w:=fun S h=>by rw [h]; rfl
  exact h2 _ (by simpa using this)
def Found (E:Env) (μ:MM) (i:Nat) (res:Option (Nat × AVal)) (r:Option (Nat × Value)):Prop :=
 match res,r with
 | none,none=>True
 | some (j,v),some (j',v')=>j'=i+j∧VRel E μ v v'
 | _,_=>False
def Entries (E:Env) (μ:MM) (es:List (AVal × AVal × Nat)) (l:List MapEntry):Prop :=
 l.length=es.length∧∀ (k:Nat) (x:AVal × AVal × Nat),es[k]? = some x→∃ y:MapEntry,l[k]? = some y∧VRel E μ x.1 y.key∧VRel E μ x.2.1 y.val∧y.born=x.2.2
theorem Entries.cons {x:AVal × AVal × Nat} {es:List (AVal × AVal × Nat)} {l:List MapEntry} (h:Entries E μ (x :: es) l):∃ y l',l=y :: l'∧VRel E μ x.1 y.key∧VRel E μ x.2.1 y.val∧Entries E μ es l':=by
 obtain ⟨h1,h2⟩:=h;cases l with
 | nil=>simp at h1
 | cons y l =>
  obtain ⟨y',e,h3,h4,_⟩:=h2 0 x rfl;simp at e; subst e;exact ⟨y,l,rfl,h3,h4,by simpa using h1,fun k z hz=>by simpa using h2 (k+1) z (by simpa using hz)⟩
theorem key_cases {x y:AVal} {r:Bool} (h:akey x y=some r):(∃ a b,x = .str a∧y = .str b∧r=decide (a=b))∨(∃ k a b,x = .int k a∧y = .int k b∧r=decide (a=b))∨(∃ a b,x = .bool a∧y = .bool b∧r=decide (a=b))∨∃ a b,x = .agg a∧y = .agg b:=by
 unfold akey at h;split at h
 ·exact .inr (.inr (.inr ⟨_,_,rfl,rfl⟩))
 ·unfold akey1 at h;split at h
  ·cases h; exact .inl ⟨_,_,rfl,rfl,rfl⟩
  ·split at h
   ·rename_i e; subst e; cases h; exact .inr (.inl ⟨_,_,_,rfl,rfl,rfl⟩)
   ·cases h
  ·cases h; exact .inr (.inr (.inl ⟨_,_,rfl,rfl,rfl⟩))
  ·cases h
theorem yd {d:TypeDesc} {x y:AVal} {u v:Value} {b r:Bool} (hx:VRel E μ x u) (hy:VRel E μ y v) (hs:Instr.sameNow d u v=some b) (hr:akey x y=some r):b=r:=by
 rcases key_cases hr with ⟨p,q,rfl,rfl,rfl⟩ | ⟨k,p,q,rfl,rfl,rfl⟩ | ⟨p,q,rfl,rfl,rfl⟩ | ⟨p,q,rfl,rfl⟩
 ·simp only [VRel] at hx hy; subst hx; subst hy;cases d <;> simp only [Instr.sameNow,reduceCtorEq] at hs
  injection hs with hs;rw [← hs,mh,MapKept.bytes_beq]; simp
 ·simp only [VRel] at hx hy; subst hx; subst hy;cases d <;> simp only [Instr.sameNow,reduceCtorEq] at hs
  simp at hs;rw [← hs,mh]; simp
 ·simp only [VRel] at hx hy; subst hx; subst hy;cases d <;> simp only [Instr.sameNow,reduceCtorEq] at hs
  injection hs with hs;rw [← hs,mh]; simp
 ·simp only [VRel] at hx hy;obtain ⟨_,rfl,_⟩:=hx;obtain ⟨_,rfl,_⟩:=hy;cases d <;> simp [Instr.sameNow] at hs
theorem ye {d:TypeDesc} {x:AVal} {u:Value} (hx:VRel E μ x u):∀ {es:List (AVal × AVal × Nat)} {l:List MapEntry} {i:Nat} {res:Option (Nat × AVal)} {r:Option (Nat × Value)},Entries E μ es l→findA x es=some res→Instr.findNow d u l i=some r→Found E μ i res r
 | [],l,i,res,r,he,hf,hn=>by have:l=[]:=cg (by simpa using he.1);subst this;simp only [findA] at hf; cases hf;simp only [Instr.findNow] at hn; cases hn;trivial
 | e :: es,l,i,res,r,he,hf,hn=>by
  obtain ⟨y,l',rfl,h1,h2,h3⟩:=he.cons;simp only [findA] at hf;simp only [Instr.findNow] at hn;split at hn
  ·rename_i hs;cases hn;cases hk:akey x e.1 with
   | none=>rw [hk] at hf; cases hf
   | some q =>
    have:=yd hx h1 hs hk;subst this;rw [hk] at hf;simp only at hf; cases hf;exact ⟨rfl,h2⟩
  ·rename_i hs;cases hk:akey x e.1 with
   | none=>rw [hk] at hf; cases hf
   | some q =>
    have:=yd hx h1 hs hk;subst this;rw [hk] at hf;simp only at hf;rw [ae] at hf;obtain ⟨res',hf',rfl⟩:=hf;have ih:=ye hx h3 hf' hn;cases res' with
    | none=>cases r <;> exact ih
    | some p =>
     cases r with
     | none=>exact ih
     | some q=>exact ⟨by have:=ih.1; omega,ih.2⟩
  ·cases hn
theorem sm {t:TypeId} {kn:KeyT} {x:AVal} {u:Value} (hk:keyT E.P t=some kn) (hx:VRel E μ x u) (hkx:isKey kn x=true) (w:World):∀ {es:List (AVal × AVal × Nat)} {l:List MapEntry} {i:Nat} {res:Option (Nat × AVal)},
  Entries E μ es l→findA x es=some res→∃ r,(Instr.findAsking t u l i).run E.P w = .ok r w∧Found E μ i res r
 | [],l,i,res,he,hf=>by have:l=[]:=cg (by simpa using he.1);subst this;simp only [findA] at hf; cases hf;exact ⟨none,by simp [Instr.findAsking],trivial⟩
 | e :: es,l,i,res,he,hf=>by
  obtain ⟨y,l',rfl,h1,h2,h3⟩:=he.cons;simp only [findA] at hf;cases hke:akey x e.1 with
  | none=>rw [hke] at hf; cases hf
  | some q =>
   have heq:=key_eq hk hx h1 hkx hke w;rw [hke] at hf;cases q with
   | true =>
    simp only at hf; cases hf;exact ⟨some (i,y.val),by simp [Instr.findAsking,heq],rfl,h2⟩
   | false =>
    simp only at hf;rw [ae] at hf;obtain ⟨res',hf',rfl⟩:=hf;obtain ⟨r,hr,ih⟩:=sm hk hx hkx w (i:=i+1) h3 hf';refine ⟨r,by simp [Instr.findAsking,heq,hr],?_⟩;cases res' with
    | none=>cases r <;> exact ih
    | some p =>
     cases r with
     | none=>exact ih
     | some q=>exact ⟨by have:=ih.1; omega,ih.2⟩
theorem lg {t:TypeId} {kn:KeyT} {x:AVal} {u:Value} (hk:keyT E.P t=some kn) (hx:VRel E μ x u) (hkx:isKey kn x=true) (w:World) {es:List (AVal × AVal × Nat)} {l:List MapEntry} {res:Option (Nat × AVal)}
  (he:Entries E μ es l) (hf:findA x es=some res):∃ r,(Instr.findKey t u l).run E.P w = .ok r w∧Found E μ 0 res r:=by
 have hu:∃ d,E.P.underlying t=some d:=by
  cases hu:E.P.underlying t with
  | none=>simp [keyT,hu] at hk
  | some ty=>exact ⟨ty,rfl⟩
 obtain ⟨d,hd⟩:=hu;cases hn:Instr.findNow d u l 0 with
 | some r=>exact ⟨r,MapKept.run_findKey hd hn,ye hx he hf hn⟩
 | none =>
  obtain ⟨r,hr,h2⟩:=sm hk hx hkx w (i:=0) he hf;exact ⟨r,by simp [Instr.findKey,run_underlying hd,Result.andThen,hn,hr],h2⟩
theorem zai {x y:AVal} (h:akey1 x y=some true):x=y∧(∃ c:CK,c.is x=true):=by
 unfold akey1 at h;split at h
 ·simp at h; exact ⟨by rw [h],.s,rfl⟩
 ·split at h
  ·rename_i e; subst e; simp at h; exact ⟨by rw [h],.i,rfl⟩
  ·cases h
 ·simp at h; exact ⟨by rw [h],.b,rfl⟩
 ·cases h
theorem zaj:∀ {aZ bs:List AVal},akeyL aZ bs=some true→aZ=bs∧∀ x ∈ aZ,∃ c:CK,c.is x=true
 | [],[],_=>⟨rfl,by simp⟩
 | a :: aZ,b :: bs,h=>by
  simp only [akeyL] at h;split at h
  ·rename_i h1;obtain ⟨rfl,h2⟩:=zai h1;obtain ⟨rfl,h3⟩:=zaj h
   exact ⟨rfl,fun x hx=>by
    rcases dy.1 hx with rfl | hx
    ·exact h2
    ·exact h3 x hx⟩
  ·cases h
  ·cases h
 | [],_ :: _,h=>by simp [akeyL] at h
 | _ :: _,[],h=>by simp [akeyL] at h
theorem key_val {x:AVal} {u v:Value} (hc:∃ c:CK,c.is x=true) (hu:VRel E μ x u) (hv:VRel E μ x v):u=v∧∀ n,Instr.sameBits n u u=true:=by obtain ⟨c,hc⟩:=hc;cases x <;> cases c <;> simp only [CK.is,de] at hc <;> (simp only [VRel] at hu hv; subst hu; subst hv; refine ⟨rfl,fun n=>?_⟩; cases n <;> simp [Instr.sameBits,MapKept.bytes_beq])
theorem keys_val:∀ {aZ:List AVal} {l r:List Value},(∀ x ∈ aZ,∃ c:CK,c.is x=true)→VRels E μ aZ l→VRels E μ aZ r→l=r∧∀ u ∈ l,∀ n,Instr.sameBits n u u=true
 | [],l,r,_,h1,h2=>by simp only [VRels] at h1 h2; subst h1; subst h2;exact ⟨rfl,by simp⟩
 | a :: aZ,l,r,h,h1,h2=>by
  simp only [VRels] at h1 h2;obtain ⟨u,l,rfl,h3,h4⟩:=h1;obtain ⟨v,r,rfl,h5,h6⟩:=h2;obtain ⟨rfl,h7⟩:=key_val (h a (bg ..)) h3 h5;obtain ⟨rfl,h8⟩:=keys_val (fun x hx=>h x (bj _ hx)) h4 h6
  exact ⟨rfl,fun z hz=>by
   rcases dy.1 hz with rfl | hz
   ·exact h7
   ·exact h8 z hz⟩
theorem run_stays {x y:AVal} {u v:Value} (h:akey x y=some true) (hx:VRel E μ x u) (hy:VRel E μ y v) (w:World):(Instr.keyThatStays v u).run E.P w = .ok u w:=by
 have:Instr.sameBits 10000 v u=true:=by
  unfold akey at h;split at h
  ·split at h
   ·obtain ⟨rfl,h1⟩:=zaj h;simp only [VRel] at hx hy;obtain ⟨a,rfl,h2,_⟩:=hx;obtain ⟨b,rfl,h3,_⟩:=hy;obtain ⟨e,h4⟩:=keys_val h1 h2 h3;have e':a=b:=Array.toList_inj.1 e;subst e'
    have hall:(a.toList.zip a.toList).all (fun (x,y)=>Instr.sameBits 9999 x y)=true:=by
     rw [au];rintro ⟨p,q⟩ hpq
     have:p=q∧p ∈ a.toList:=by obtain ⟨k,hk⟩:=ig hpq;rw [List.getElem?_zip_eq_some] at hk;obtain ⟨k1,k2⟩:=hk;simp only at k1 k2;rw [k1] at k2;exact ⟨dr k2,bn k1⟩
     obtain ⟨rfl,hp⟩:=this;exact h4 p hp 9999
    show (a.size == a.size && _)=true
    rw [hall]; simp
   ·cases h
  ·obtain ⟨rfl,h1⟩:=zai h;obtain ⟨rfl,h2⟩:=key_val h1 hx hy;exact h2 10000
 simp [Instr.keyThatStays,this]
theorem tv {x:AVal}:∀ {es:List (AVal × AVal × Nat)} {j:Nat} {v:AVal},findA x es=some (some (j,v))→∃ e,es[j]? = some e∧akey x e.1=some true
 | [],j,v,h=>by simp [findA] at h
 | e :: es,j,v,h=>by
  simp only [findA] at h;split at h
  ·rename_i hk; cases h; exact ⟨e,rfl,hk⟩
  ·rw [ae] at h;obtain ⟨r,h1,h2⟩:=h;cases r with
   | none=>simp at h2
   | some p =>
    obtain ⟨j',v'⟩:=p;simp at h2;obtain ⟨rfl,rfl⟩:=h2;obtain ⟨e',h3,h4⟩:=tv h1;exact ⟨e',by simpa using h3,h4⟩
  ·cases h
theorem run_zeroA {P:Program} {t:TypeId} {z:AVal} (hz:zeroA P t=some z) (μ:MM) (w:World):∃ v,(zeroValue t).run P w = .ok v w∧VRel E μ z v:=by
 unfold zeroA at hz;split at hz;case h_2=>cases hz
 rename_i i hi;split at hz;case h_2=>cases hz
 rename_i v hv;exact ⟨v,by simp [zeroValue,typeInfo,hi,hv],toA_rel hz μ⟩
theorem vg (hr:Rel E μ h w) {r:Nat} {es:List (AVal × AVal × Nat)} {c:Nat} (hg:h.get r=some (.map es c)):∃ (m:M) (es':Array MapEntry),μ[r]? = some (some m)∧w.heap[m.blk]? = some (.map es' c)∧Entries E μ es es'.toList:=by obtain ⟨m,es',h1,h2,h3,h4⟩:=hr.obj r _ hg;exact ⟨m,es',h1,h2,by simpa using h3,fun k x hk=>by obtain ⟨y,y1,y2⟩:=h4 k x hk; exact ⟨y,by simpa using y1,y2⟩⟩
theorem zak {r:Nat} {u:Value} {m:M} (hx:VRel E μ (.map (some r)) u) (hm:μ[r]? = some (some m)):u = .map (some m.blk):=by simp only [VRel] at hx;obtain ⟨b,x,rfl,h1,h2⟩:=hx;rw [hm] at h1; cases h1;rw [h2 m rfl]
theorem lookup_rel (hr:Rel E μ h w) {t k e:TypeId} {kn:KeyT} {z:AVal} {ok:Bool} {x y v:AVal} {u i:Value} {h':Heap} (ht:E.P.underlying t=some (.map k e)) (hk:keyT E.P k=some kn) (hz:zeroA E.P e=some z) (hx:VRel E μ x u) (hy:VRel E μ y i)
  (he:dj (.lookup kn z ok) [x,y] h=some (v,h')):h'=h∧∃ r,(Instr.lookup t u i ok).run E.P w = .ok r w∧VRel E μ v r:=by
 simp only [dj] at he;split at he;case isFalse=>cases he
 rename_i hkey;split at he;case h_2=>cases he
 rename_i es hes
 have hent:∃ l:Array MapEntry,Entries E μ es l.toList∧((u = .map none∧l = #[])∨∃ b c,u = .map (some b)∧w.heap[b]? = some (.map l c)):=by
  unfold entriesOf at hes;split at hes
  ·cases hes;simp only [VRel] at hx;exact ⟨#[],⟨rfl,by simp⟩,.inl ⟨hx,rfl⟩⟩
  ·rename_i r;split at hes
   ·rename_i es0 c hg;cases hes;obtain ⟨m,es',h1,h2,h3⟩:=vg hr hg;exact ⟨es',h3,.inr ⟨_,_,zak hx h1,h2⟩⟩
   ·cases hes
  ·cases hes
 obtain ⟨l,hl,hu⟩:=hent;have hchk:=qk hk hy hkey l.isEmpty 9998 w;split at he
 ·rename_i j v0 hf;cases he;refine ⟨rfl,?_⟩;obtain ⟨r,hr1,hr2⟩:=lg hk hy hkey w hl hf;cases r with
  | none=>exact hr2.elim
  | some p =>
   refine ⟨if ok then .tuple #[p.2,.bool true] else p.2,?_,?_⟩
   ·rcases hu with ⟨rfl,rfl⟩ | ⟨b,c,rfl,hb⟩
    ·simp at hchk hr1;simp [Instr.lookup,run_underlying ht,hchk,hr1]
    ·simp at hchk hr1;simp [Instr.lookup,run_underlying ht,MapKept.run_getObj_map hb,hchk,hr1]
   ·cases ok with
    | true=>simp only [if_true,VRel]; exact ⟨_,rfl,by simp [VRels,VRel,hr2.2]⟩
    | false=>simpa using hr2.2
 ·rename_i hf;cases he;refine ⟨rfl,?_⟩;obtain ⟨r,hr1,hr2⟩:=lg hk hy hkey w hl hf;obtain ⟨zv,hz1,hz2⟩:=run_zeroA (E:=E) hz μ w;cases r with
  | some p=>exact hr2.elim
  | none =>
   refine ⟨if ok then .tuple #[zv,.bool false] else zv,?_,?_⟩
   ·rcases hu with ⟨rfl,rfl⟩ | ⟨b,c,rfl,hb⟩
    ·simp at hchk hr1;simp [Instr.lookup,run_underlying ht,hchk,hr1,hz1]
    ·simp at hchk hr1;simp [Instr.lookup,run_underlying ht,MapKept.run_getObj_map hb,hchk,hr1,hz1]
   ·cases ok with
    | true=>simp only [if_true,VRel]; exact ⟨_,rfl,by simp [VRels,VRel,hz2]⟩
    | false=>simpa using hz2
 ·cases he
theorem ze (hf:FRel E lo ν μ (sget s) a.tmps w) (hr:Rel E μ h w) {dst:Option Tmp} {rr:Result Next} (hd:∀ x,dst=some x→x < a.tmps.size) {r:Nat} {m:M} {es:List (AVal × AVal × Nat)} {es' l:Array MapEntry} {c c0:Nat}
  (hb:h.base≤r) (hm:μ[r]? = some (some m)) (_hblk:w.heap[m.blk]? = some (.map l c0)) (hes:Entries E μ es es'.toList)
  (hrun:rr = .ok .skip (ct w m.blk (.map es' c))∨rr = .ok (.value (.tuple #[])) (ct w m.blk (.map es' c))) :
  OpDone E lo ν.ds μ w a dst rr (.val (.tuple [])) s (h.put r (.map es c)):=by
 have hlt:=hr.lt r m hm;refine ⟨Go.undef,ct w m.blk (.map es' c),μ,ν,rfl,?_,Step.put hm (fz _ _) _,hr.put hb hm ?_,?_⟩
 ·rcases hrun with h1 | h1
  ·exact .inr ⟨rfl,h1⟩
  ·exact .inl h1
 ·exact ⟨m,es',hm,g7 hlt,by simpa using hes.1,fun k x hk=>by obtain ⟨y,y1,y2⟩:=hes.2 k x hk; exact ⟨y,by simpa using y1,y2⟩⟩
 ·rw [iu];refine FRel.setVal ?_ hd (by simp only [VRel]; exact ⟨#[],rfl,by simp [VRels]⟩);exact hf.keep (Later.refl _) (fun t cs' hv=>bp (hf.sepm t cs' r m hv hm)) (fun t cs' j m' _ hj hm=>absurd (ah hm) (by omega)) fun q hq=>⟨bp ((hf.sepd q hq).1 r m hm),fun j m' hj hm=>absurd (ah hm) (by omega)⟩
theorem yg (hf:FRel E lo ν μ (sget s) a.tmps w) (hr:Rel E μ h w) {dst:Option Tmp} {rr:Result Next} (hd:∀ x,dst=some x→x < a.tmps.size) {t k e:TypeId} {kn:KeyT} {x y z v:AVal} {u i p:Value} {h':Heap}
  (ht:E.P.underlying t=some (.map k e)) (hk:keyT E.P k=some kn) (hx:VRel E μ x u) (hy:VRel E μ y i) (hz:VRel E μ z p) (he:dj (.mapupd kn) [x,y,z] h=some (v,h'))
  (hrun:rr=((Instr.mapUpdate t u i p).run E.P w).andThen fun _ w'=>.ok .skip w'):OpDone E lo ν.ds μ w a dst rr (.val v) s h':=by
 cases x <;> simp only [dj,reduceCtorEq] at he
 rename_i q;cases q with
 | none=>cases he
 | some r =>
  simp only at he;split at he;case isFalse=>cases he
  rename_i hh;obtain ⟨hkey,hb⟩:=hh;split at he;case h_2=>cases he
  rename_i es c hg;obtain ⟨m,l,h1,h2,h3⟩:=vg hr hg;have hu:=zak hx h1;subst hu;have hchk:=qk hk hy hkey false 9998 w;split at he
  ·rename_i j v0 hfd;cases he;obtain ⟨q,hr1,hr2⟩:=lg hk hy hkey w h3 hfd;cases q with
   | none=>exact hr2.elim
   | some q =>
    obtain ⟨j',v'⟩:=q;obtain ⟨rfl,_⟩:=hr2;obtain ⟨e0,g1,g2⟩:=tv hfd;obtain ⟨y0,g3,g4,g5,g6⟩:=h3.2 _ _ g1;have hst:=run_stays g2 hy g4 w;have g3':l[j]? = some y0:=by simpa using g3
    refine ze (c:=c) (es':=l.modify j fun x=>{ x with key:=i,val:=p }) hf hr hd hb h1 h2 ⟨?_,fun k' x' hk'=>?_⟩ (.inl ?_)
    ·simp [h3.1]
    ·rw [List.getElem?_modify] at hk';by_cases ej:j=k'
     ·subst ej;rw [g1] at hk';simp at hk';subst hk';refine ⟨{ y0 with key:=i,val:=p },?_,hy,hz,g6⟩;simp [g3']
     ·have hk'':es[k']? = some x':=by
       cases hq:es[k']? with
       | none=>rw [hq] at hk'; simp at hk'
       | some z0=>rw [hq] at hk'; simp [ej] at hk'; rw [hk']
      obtain ⟨y1,q1,q2⟩:=h3.2 _ _ hk'';refine ⟨y1,?_,q2⟩;have q1':l[k']? = some y1:=by simpa using q1
      simp [ej,q1']
    ·rw [hrun];simp [Instr.mapUpdate,run_underlying ht,MapKept.run_getObj_map h2,hchk,hr1,g3',hst,MapKept.run_setObj_map _ h2];rfl
  ·rename_i hfd;cases he;obtain ⟨q,hr1,hr2⟩:=lg hk hy hkey w h3 hfd;cases q with
   | some q=>exact hr2.elim
   | none =>
    refine ze (c:=c+1) (es':=l.push { key:=i,val:=p,born:=c }) hf hr hd hb h1 h2 ⟨?_,fun k' x' hk'=>?_⟩ (.inl ?_)
    ·have:=h3.1; simp at this ⊢; exact this
    ·have hl:=h3.1;simp at hl;rcases bi k' es.length with hlt | hge
     ·rw [ag hlt] at hk';obtain ⟨y1,q1,q2⟩:=h3.2 _ _ hk';refine ⟨y1,?_,q2⟩;have q1':l[k']? = some y1:=by simpa using q1
      rw [lr,di,if_neg (by omega)];exact q1'
     ·rw [aw hge] at hk'
      have h0:k'=es.length:=by have:=ah hk';simp at this; omega
      subst h0;simp at hk';subst hk';exact ⟨{ key:=i,val:=p,born:=c },by simp [hl],hy,hz,rfl⟩
    ·rw [hrun];simp [Instr.mapUpdate,run_underlying ht,MapKept.run_getObj_map h2,hchk,hr1,MapKept.run_setObj_map _ h2];rfl
  ·cases he
theorem map_putV (hf:FRel E lo ν μ (sget s) a.tmps w) (hr:Rel E μ h w) {dst:Option Tmp} {rr:Result Next} (hd:∀ x,dst=some x→x < a.tmps.size) {r:Nat} {m:M} {es:List (AVal × AVal × Nat)} {es' l:Array MapEntry} {c c0:Nat} {v:AVal} {u:Value}
  (hb:h.base≤r) (hm:μ[r]? = some (some m)) (_hblk:w.heap[m.blk]? = some (.map l c0)) (hes:Entries E μ es es'.toList) (hv:VRel E μ v u)
  (hrun:rr = .ok (.value u) (ct w m.blk (.map es' c))) :
  OpDone E lo ν.ds μ w a dst rr (.val v) s (h.put r (.map es c)):=by
 have hlt:=hr.lt r m hm;refine ⟨u,ct w m.blk (.map es' c),μ,ν,rfl,.inl hrun,Step.put hm (fz _ _) _,hr.put hb hm ?_,?_⟩
 ·exact ⟨m,es',hm,g7 hlt,by simpa using hes.1,fun k x hk=>by obtain ⟨y,y1,y2⟩:=hes.2 k x hk; exact ⟨y,by simpa using y1,y2⟩⟩
 ·rw [iu];refine FRel.setVal ?_ hd hv;exact hf.keep (Later.refl _) (fun t cs' hv=>bp (hf.sepm t cs' r m hv hm)) (fun t cs' j m' _ hj hm=>absurd (ah hm) (by omega)) fun q hq=>⟨bp ((hf.sepd q hq).1 r m hm),fun j m' hj hm=>absurd (ah hm) (by omega)⟩
theorem mapentry_done (hf:FRel E lo ν μ (sget s) a.tmps w) (hr:Rel E μ h w) {dst:Option Tmp} {rr:Result Next} (hd:∀ x,dst=some x→x < a.tmps.size) {t k e:TypeId} {kn:KeyT} {x y z v:AVal} {u i:Value} {h':Heap}
  (ht:E.P.underlying t=some (.map k e)) (hk:keyT E.P k=some kn) (hz:zeroA E.P e=some z) (hx:VRel E μ x u) (hy:VRel E μ y i) (he:dj (.mapentry kn z) [x,y] h=some (v,h'))
  (hrun:rr=((Instr.mapEntry t u i).run E.P w).andThen fun v w'=>.ok (.value v) w'):OpDone E lo ν.ds μ w a dst rr (.val v) s h':=by
 cases x <;> simp only [dj,reduceCtorEq] at he
 rename_i q;cases q with
 | none=>cases he
 | some r =>
  simp only at he;split at he;case isFalse=>cases he
  rename_i hh;obtain ⟨hkey,hb⟩:=hh;split at he;case h_2=>cases he
  rename_i es c hg;obtain ⟨m,l,h1,h2,h3⟩:=vg hr hg;have hu:=zak hx h1;subst hu;have hchk:=qk hk hy hkey false 9998 w;split at he
  ·rename_i j v0 hfd;cases he;obtain ⟨q,hr1,hr2⟩:=lg hk hy hkey w h3 hfd;cases q with
   | none=>exact hr2.elim
   | some q =>
    obtain ⟨j',v'⟩:=q;obtain ⟨rfl,hvv⟩:=hr2;obtain ⟨e0,g1,g2⟩:=tv hfd;obtain ⟨y0,g3,g4,g5,g6⟩:=h3.2 _ _ g1;have hst:=run_stays g2 hy g4 w;have g3':l[j]? = some y0:=by simpa using g3
    refine map_putV (c:=c) (es':=l.modify j fun x=>{ x with key:=i }) (u:=.tuple #[v',goInt y0.born]) hf hr hd hb h1 h2 ⟨?_,fun k' x' hk'=>?_⟩ ?_ ?_
    ·simp [h3.1]
    ·rw [List.getElem?_modify] at hk';by_cases ej:j=k'
     ·subst ej;rw [g1] at hk';simp at hk';subst hk';refine ⟨{ y0 with key:=i },?_,hy,g5,g6⟩;simp [g3']
     ·have hk'':es[k']? = some x':=by
       cases hq:es[k']? with
       | none=>rw [hq] at hk'; simp at hk'
       | some z0=>rw [hq] at hk'; simp [ej] at hk'; rw [hk']
      obtain ⟨y1,q1,q2⟩:=h3.2 _ _ hk'';refine ⟨y1,?_,q2⟩;have q1':l[k']? = some y1:=by simpa using q1
      simp [ej,q1']
    ·simp only [VRel];refine ⟨_,rfl,?_⟩;simp [VRels,VRel,hvv,g1,g6,goInt]
    ·rw [hrun];simp [Instr.mapEntry,run_underlying ht,MapKept.run_getObj_map h2,hchk,hr1,g3',hst,MapKept.run_setObj_map _ h2];rfl
  ·rename_i hfd;cases he;obtain ⟨q,hr1,hr2⟩:=lg hk hy hkey w h3 hfd;obtain ⟨zv,hz1,hz2⟩:=run_zeroA (E:=E) hz μ w;cases q with
   | some q=>exact hr2.elim
   | none =>
    refine map_putV (c:=c+1) (es':=l.push { key:=i,val:=zv,born:=c }) (u:=.tuple #[zv,goInt c]) hf hr hd hb h1 h2 ⟨?_,fun k' x' hk'=>?_⟩ ?_ ?_
    ·have:=h3.1; simp at this ⊢; exact this
    ·have hl:=h3.1;simp at hl;rcases bi k' es.length with hlt | hge
     ·rw [ag hlt] at hk';obtain ⟨y1,q1,q2⟩:=h3.2 _ _ hk';refine ⟨y1,?_,q2⟩;have q1':l[k']? = some y1:=by simpa using q1
      rw [lr,di,if_neg (by omega)];exact q1'
     ·rw [aw hge] at hk'
      have h0:k'=es.length:=by have:=ah hk';simp at this; omega
      subst h0;simp at hk';subst hk';exact ⟨{ key:=i,val:=zv,born:=c },by simp [hl],hy,hz2,rfl⟩
    ·simp only [VRel];refine ⟨_,rfl,?_⟩;simp [VRels,VRel,hz2,goInt]
    ·rw [hrun];simp [Instr.mapEntry,run_underlying ht,MapKept.run_getObj_map h2,hchk,hr1,hz1,MapKept.run_setObj_map _ h2];rfl
  ·cases he
theorem vh {st:Int}:∀ {es:List (AVal × AVal × Nat)} {l:List MapEntry},Entries E μ es l→l.findIdx? (fun e=>((e.born:Nat):Int) == st)=es.findIdx? (fun e=>((e.2.2:Nat):Int) == st)
 | [],l,h=>by have:l=[]:=cg h.1;subst this; rfl
 | x :: es,l,h=>by obtain ⟨_,hh⟩:=h;obtain ⟨y,l',rfl,h1,h2,h3⟩:=Entries.cons ⟨by assumption,hh⟩;obtain ⟨y',e1,_,_,e2⟩:=hh 0 x rfl;simp at e1;subst e1;rw [List.findIdx?_cons,List.findIdx?_cons,e2,vh h3]
theorem y7 (hf:FRel E lo ν μ (sget s) a.tmps w) (hr:Rel E μ h w) {dst:Option Tmp} {rr:Result Next} (hd:∀ x,dst=some x→x < a.tmps.size) {t:TypeId} {x y z v:AVal} {u i p:Value} {h':Heap}
  (hx:VRel E μ x u) (hy:VRel E μ y i) (hz:VRel E μ z p) (he:dj .entrystore [x,y,z] h=some (v,h'))
  (hrun:rr=((Instr.entryStore t u i p).run E.P w).andThen fun _ w'=>.ok .skip w'):OpDone E lo ν.ds μ w a dst rr (.val v) s h':=by
 have hsh:∃ r st,x = .map (some r)∧y = .int .i64 st:=by unfold dj at he;split at he <;> simp_all
 obtain ⟨r,st,rfl,rfl⟩:=hsh;simp only [dj] at he;split at he;case isFalse=>cases he
 rename_i hb;split at he;case h_2=>cases he
 rename_i es c hg;obtain ⟨m,l,h1,h2,h3⟩:=vg hr hg;have hu:=zak hx h1;subst hu;have hi:i = .int .i64 st:=by simpa only [VRel] using hy
 subst hi;split at he;case h_2=>cases he
 rename_i j hj;cases he
 have hj':l.findIdx? (fun e=>((e.born:Nat):Int) == st)=some j:=by have:=vh (st:=st) h3;rw [hj] at this;rw [← this];obtain ⟨l⟩:=l;simp
 have hjl:j < es.length:=by have:=List.findIdx?_eq_some_iff_getElem.1 hj;exact this.1
 obtain ⟨e0,g1⟩:∃ e0,es[j]? = some e0:=⟨_,ai hjl⟩;obtain ⟨y0,g3,g4,g5,g6⟩:=h3.2 _ _ g1;have g3':l[j]? = some y0:=by simpa using g3
 refine ze (c:=c) (es':=l.modify j fun x=>{ x with val:=p }) hf hr hd hb h1 h2 ⟨?_,fun k' x' hk'=>?_⟩ (.inl ?_)
 ·simp [h3.1]
 ·rw [List.getElem?_modify] at hk';by_cases ej:j=k'
  ·subst ej;rw [g1] at hk';simp at hk';subst hk';refine ⟨{ y0 with val:=p },?_,g4,hz,g6⟩;simp [g3']
  ·have hk'':es[k']? = some x':=by
    cases hq:es[k']? with
    | none=>rw [hq] at hk'; simp at hk'
    | some z0=>rw [hq] at hk'; simp [ej] at hk'; rw [hk']
   obtain ⟨y1,q1,q2⟩:=h3.2 _ _ hk'';refine ⟨y1,?_,q2⟩;have q1':l[k']? = some y1:=by simpa using q1
   simp [ej,q1']
 ·rw [hrun];simp [Instr.entryStore,asInt,asIntOf,MapKept.run_getObj_map h2,hj',MapKept.run_setObj_map _ h2];rfl
theorem delete_done (hf:FRel E lo ν μ (sget s) a.tmps w) (hr:Rel E μ h w) {dst:Option Tmp} {rr:Result Next} (hd:∀ x,dst=some x→x < a.tmps.size) {t k e:TypeId} {ts:Array TypeId} {ty:TypeId} {kn:KeyT} {x y v:AVal} {u i:Value} {h':Heap}
  (hts:ts[0]? = some t) (ht:E.P.underlying t=some (.map k e)) (hk:keyT E.P k=some kn) (hx:VRel E μ x u) (hy:VRel E μ y i) (he:dj (.delete kn) [x,y] h=some (v,h'))
  (hrun:rr=((Builtin.delete_ ts ty #[u,i]).run E.P w).andThen fun v w'=>.ok (.value v) w'):OpDone E lo ν.ds μ w a dst rr (.val v) s h':=by
 cases x <;> simp only [dj,reduceCtorEq] at he
 rename_i q;cases q with
 | none =>
  simp only at he;split at he;case isFalse=>cases he
  rename_i hkey;cases he;simp only [VRel] at hx; subst hx;have hchk:=qk hk hy hkey true 9998 w;refine e8 hf hr hd (v:=.tuple #[]) ?_ (by simp only [VRel]; exact ⟨#[],rfl,by simp [VRels]⟩);rw [hrun];simp [Builtin.delete_,hts,run_underlying ht,hchk]
 | some r =>
  simp only at he;split at he;case isFalse=>cases he
  rename_i hh;obtain ⟨hkey,hb⟩:=hh;split at he;case h_2=>cases he
  rename_i es c hg;obtain ⟨m,l,h1,h2,h3⟩:=vg hr hg;have hu:=zak hx h1;subst hu;have hchk:=qk hk hy hkey l.isEmpty 9998 w;split at he
  ·rename_i j v0 hfd;cases he;obtain ⟨q,hr1,hr2⟩:=lg hk hy hkey w h3 hfd;cases q with
   | none=>exact hr2.elim
   | some q =>
    obtain ⟨j',v'⟩:=q;obtain ⟨rfl,_⟩:=hr2;obtain ⟨e0,g1,_⟩:=tv hfd;have hl:=h3.1;simp at hl;have hj:j < l.size:=by rw [hl]; exact ah g1
    refine ze (c:=c) (es':=l.eraseIdxIfInBounds j) hf hr hd hb h1 h2 ⟨?_,fun k' x' hk'=>?_⟩ (.inr ?_)
    ·simp [Array.eraseIdxIfInBounds,hj,List.length_eraseIdx,← hl]
    ·rw [List.getElem?_eraseIdx] at hk';simp only [Array.eraseIdxIfInBounds,hj,dif_pos,Array.toList_eraseIdx,List.getElem?_eraseIdx];split at hk'
     ·rename_i hlt; rw [if_pos hlt]; exact h3.2 _ _ hk'
     ·rename_i hlt; rw [if_neg hlt]; exact h3.2 _ _ hk'
    ·rw [hrun];simp [Builtin.delete_,hts,run_underlying ht,MapKept.run_getObj_map h2,hchk,hr1,MapKept.run_setObj_map _ h2];rfl
  ·rename_i hfd;cases he;obtain ⟨q,hr1,hr2⟩:=lg hk hy hkey w h3 hfd;cases q with
   | some q=>exact hr2.elim
   | none =>
    have hsame:({ w with heap:=w.heap.setIfInBounds m.blk (.map l c) }:World)=w:=by
     congr 1;apply Array.ext_getElem?;intro k';by_cases e:m.blk=k'
     ·subst e;rw [h2];have:=hr.lt _ _ h1;simp [this]
     ·rw [eh e]
    refine e8 hf hr hd (v:=.tuple #[]) ?_ (by simp only [VRel]; exact ⟨#[],rfl,by simp [VRels]⟩);rw [hrun];simp [Builtin.delete_,hts,run_underlying ht,MapKept.run_getObj_map h2,hchk,hr1,MapKept.run_setObj_map _ h2,hsame]
  ·cases he
end
end Go.Abs

namespace Go.Abs
section
variable {E:Env} {lo:Nat} {ν:Fr} {μ:MM} {s:Slots} {h:Heap} {a:Act} {w:World}
theorem nh {P:Program} {S:Sem Value} {v:Value} {w w':World} (hS:S.run P w = .ok v w'):(do pure (Next.value (← S)):Sem Next).run P w = .ok (.value v) w':=by simp [hS]
def plainEq:Value→Bool
 | .bool _ | .pointer _ | .slice _ _ _ | .map _ | .func _ _ _ | .nilFunc=>true
 | _=>false
def kindIs (k:NilKind) (d:TypeDesc):Prop :=
 match k with
 | .ptr=>∃ e,d = .pointer e
 | .slice=>∃ e,d = .slice e
 | .map=>∃ a b,d = .map a b
 | .func=>∃ a b c,d = .func a b c
theorem eqNil_rel {P:Program} {k:NilKind} {x y:AVal} {u v:Value} {d:TypeDesc} {t:TypeId} {b:Bool} (w:World) (hx:VRel E μ x u) (hy:VRel E μ y v) (ht:P.underlying t=some d)
  (hk:kindIs k d) (h:aEqNil k x y=some b):plainEq u=true∧(Op.equal t u v).run P w = .ok b w:=by
 suffices plainEq u=true∧∀ n:Nat,(Op.equalIn (n+1) t u v).run P w = .ok b w from ⟨this.1,this.2 9999⟩
 unfold aEqNil at h;split at h <;> (try cases h)
 ·obtain ⟨e,rfl⟩:=hk;simp only [VRel] at hx; subst hx;refine ⟨rfl,fun n=>?_⟩;rename_i p;cases p with
  | none=>simp only [VRel] at hy; subst hy; simp [Op.equalIn,run_underlying ht]
  | some p=>simp only [VRel] at hy; obtain ⟨_,rfl,_⟩:=hy; simp [Op.equalIn,run_underlying ht]
 ·obtain ⟨e,rfl⟩:=hk;simp only [VRel] at hx hy;obtain ⟨_,rfl,_⟩:=hx; subst hy;exact ⟨rfl,fun n=>by simp [Op.equalIn,run_underlying ht]⟩
 ·obtain ⟨e,rfl⟩:=hk;simp only [VRel] at hx;obtain ⟨_,_,rfl⟩:=hx;refine ⟨rfl,fun n=>?_⟩;rename_i p _ _ _ _;cases p with
  | none=>simp only [VRel] at hy; obtain ⟨_,_,rfl⟩:=hy; simp [Op.equalIn,run_underlying ht]
  | some p=>simp only [VRel] at hy; obtain ⟨_,_,rfl,_⟩:=hy; simp [Op.equalIn,run_underlying ht]
 ·obtain ⟨e,rfl⟩:=hk;simp only [VRel] at hx hy;obtain ⟨_,_,rfl,_⟩:=hx; obtain ⟨_,_,rfl⟩:=hy;exact ⟨rfl,fun n=>by simp [Op.equalIn,run_underlying ht]⟩
 ·obtain ⟨e,e',rfl⟩:=hk;simp only [VRel] at hx; subst hx;refine ⟨rfl,fun n=>?_⟩;rename_i p;cases p with
  | none=>simp only [VRel] at hy; subst hy; simp [Op.equalIn,run_underlying ht]
  | some p=>simp only [VRel] at hy; obtain ⟨_,_,rfl,_⟩:=hy; simp [Op.equalIn,run_underlying ht]
 ·obtain ⟨e,e',rfl⟩:=hk;simp only [VRel] at hx hy;obtain ⟨_,_,rfl,_⟩:=hx; subst hy;exact ⟨rfl,fun n=>by simp [Op.equalIn,run_underlying ht]⟩
 ·obtain ⟨e,e',e'',rfl⟩:=hk;simp only [VRel] at hx hy; subst hx; subst hy;exact ⟨rfl,fun n=>by simp [Op.equalIn,run_underlying ht]⟩
 ·obtain ⟨e,e',e'',rfl⟩:=hk;simp only [VRel] at hx hy; subst hx;obtain ⟨_,_,_,rfl,_⟩:=hy;exact ⟨rfl,fun n=>by simp [Op.equalIn,run_underlying ht]⟩
 ·obtain ⟨e,e',e'',rfl⟩:=hk;simp only [VRel] at hx hy; subst hy;obtain ⟨_,_,_,rfl,_⟩:=hx;exact ⟨rfl,fun n=>by simp [Op.equalIn,run_underlying ht]⟩
theorem run_eq {P:Program} {neg:Bool} {t:TypeId} {u v:Value} {b:Bool} (hu:plainEq u=true) (x y:Operand) (he:(Op.equal t u v).run P w = .ok b w) :
  (do eqGuard (if neg then .neq else .eql) t x y u v; binOp (if neg then .neq else .eql) t u v:Sem Value).run P w = .ok (.bool (if neg then !b else b)) w:=by
 have hg:(eqGuard (if neg then .neq else .eql) t x y u v).run P w = .ok () w:=sw _ t x y u v w (fun c e=>by subst e; cases hu) (fun e=>by subst e; cases hu);rw [Sem.run_bind,hg,Result.andThen_ok]
 have key:∀ op,(op = .eql→(binOp op t u v).run P w = .ok (.bool b) w)∧(op = .neq→(binOp op t u v).run P w = .ok (.bool !b) w):=by intro op;constructor <;> (rintro rfl; unfold binOp; cases u <;> (try cases hu) <;> cases v <;> simp [he])
 cases neg
 ·exact (key .eql).1 rfl
 ·exact (key .neq).2 rfl
theorem beq_rel {P:Program} {t:TypeId} {a b:Bool} (ht:P.underlying t=some .bool) (w:World):(Op.equal t (.bool a) (.bool b)).run P w = .ok (a == b) w:=by
 suffices ∀ n:Nat,(Op.equalIn (n+1) t (.bool a) (.bool b)).run P w = .ok (a == b) w from this 9999
 intro n;simp [Op.equalIn,run_underlying ht]
theorem zah {P:Program} (t e:TypeId) (i:TypeInfo) (z:Value) (ht:P.underlying t=some (.slice e)) (hi:P.info? e=some i) (hz:i.zero=some z)
  (n c:Nat) (hnc:n≤c) (hbytes:(i.bytes:Int)*(c:Int)≤281474976710656) (h63:c≤9223372036854775807) (w:World) :
  (Instr.makeSlice t (.int .i64 (n:Int)) (.int .i64 (c:Int))).run P w =
   .ok (.slice (some ⟨w.heap.size,0,none⟩) n c) { w with heap:=w.heap.push (.cells ((Array.range (c*i.size)).map fun j=>z.cells[j % z.cells.size]!) e (0,0)) }:=by
 have hw:∀ k:Nat,k≤9223372036854775807→IntKind.i64.wrap (k:Int)=k:=by intro k hk;simp only [IntKind.wrap,IntKind.bits,IntKind.signed];simp;omega
 have h1:¬ (281474976710656 < (i.bytes:Int)*(c:Int)):=by omega
 have h2:¬ ((c:Int) < 0):=by omega
 have h3:¬ ((n:Int) < 0):=by omega
 have h4:¬ (c < n):=by omega
 by_cases h0:c*i.size=0
 ·simp [Instr.makeSlice,run_underlying ht,typeInfo,hi,asInt,asIntOf,hw c h63,hw n (by omega),h1,h2,h3,h4,sizeOf,h0,newRow,show Array.range 0 = #[] from rfl]
 ·simp [Instr.makeSlice,run_underlying ht,typeInfo,hi,asInt,asIntOf,hw c h63,hw n (by omega),h1,h2,h3,h4,sizeOf,h0,newRow,zeroValue,hz]
theorem ul {s:Slots} {t:Nat} (h:isVar s t=true):∃ cs,sget s t=some (.var cs):=by
 unfold isVar at h;split at h
 ·rename_i cs h1; exact ⟨cs,h1⟩
 ·cases h
theorem evs2 {x y:Opd} {vs:List AVal} (h:evs s [x,y]=some vs):∃ u v,vs=[u,v]∧x.ev s=some u∧y.ev s=some v:=by
 cases hx:x.ev s with
 | none=>simp [evs,hx] at h
 | some u =>
  cases hy:y.ev s with
  | none=>simp [evs,hy] at h
  | some v=>simp [evs,hx,hy] at h; exact ⟨u,v,h.symm,rfl,rfl⟩
theorem evs3 {x y z:Opd} {vs:List AVal} (h:evs s [x,y,z]=some vs):∃ u v p,vs=[u,v,p]∧x.ev s=some u∧y.ev s=some v∧z.ev s=some p:=by
 cases hx:x.ev s with
 | none=>simp [evs,hx] at h
 | some u =>
  cases hy:y.ev s with
  | none=>simp [evs,hy] at h
  | some v =>
   cases hz:z.ev s with
   | none=>simp [evs,hz] at h
   | some p=>simp [evs,hx,hy,hz] at h; exact ⟨u,v,p,h.symm,rfl,rfl,rfl⟩
theorem aggs_rel {neg:Bool} {t:TypeId} {ks:List CK} {x y:AVal} {u v:Value} {d:TypeDesc} {r:AVal} {h':Heap} (hd:E.P.underlying t=some d) (hda:(∃ fs,d = .struct fs)∨∃ n e,d = .array n e) (hg:E.P.eqGuardType E.P.depth t=false) (hck:ckOf E.P 20 t=some ks)
  (hx:VRel E μ x u) (hy:VRel E μ y v) (he:dj (.pure (.eqcells neg ks)) [x,y] h=some (r,h')) (p q:Operand) :
  h'=h∧∃ b,r = .bool b∧(do eqGuard (if neg then .neq else .eql) t p q u v; binOp (if neg then .neq else .eql) t u v:Sem Value).run E.P w = .ok (.bool b) w:=by
 simp only [dj,evPure] at he;rw [ae] at he;obtain ⟨r',he,hr'⟩:=he;cases hr';cases x <;> simp only [evEq,reduceCtorEq] at he
 cases y <;> simp only [reduceCtorEq] at he
 rename_i A B;split at he;case isFalse=>cases he
 rename_i hh;obtain ⟨hk,hlen⟩:=hh;rw [ae] at he;obtain ⟨b,hb,he⟩:=he;cases he
 have hp:∃ m,partT E.P t=some (some m):=by obtain ⟨i,hi⟩:=info_of_underlying hd;refine ⟨i.size,?_⟩;rcases hda with ⟨fs,rfl⟩ | ⟨n,e,rfl⟩ <;> simp [partT,hd,sizeT,hi]
 obtain ⟨m,hm⟩:=hp;have heq:=eq_ck 20 t ks hck 9980 μ w (some m) _ _ u v _ _ b hm ⟨_,rfl⟩ ⟨_,rfl⟩ hx hy rfl rfl hlen hk hb;simp only [VRel] at hx hy;obtain ⟨xs,rfl,_⟩:=hx;obtain ⟨ys,rfl,_⟩:=hy;refine ⟨rfl,_,rfl,?_⟩;rw [Sem.run_bind,run_eqGuard_agg w _ t p q xs ys hg,Result.andThen_ok];cases neg
 ·simp only [de,if_false];rw [run_eql_struct w t xs ys,heq]; rfl
 ·simp only [if_true];rw [run_neq_struct w t xs ys,heq]; rfl
theorem ib_find {fn:Func} (h:fn.name = "internal/bytealg.IndexByteString"):Extern.find fn=some Extern.BytealgIndexByte.indexByte:=by
 have h1:Extern.allGenericRows.lookup "internal/bytealg.IndexByteString" = none:=by kernel_rfl
 have h2:Extern.allTypedRows.lookup "internal/bytealg.IndexByteString" = none:=by kernel_rfl
 have h3:Extern.allRows.lookup "internal/bytealg.IndexByteString" = some Extern.BytealgIndexByte.indexByte:=by kernel_rfl
 unfold Extern.find;simp only [h,h1,h2,h3];rfl
theorem cb_find {fn:Func} (h:fn.name = "internal/bytealg.CountString"):Extern.find fn=some Extern.BytealgCount.count:=by
 have h1:Extern.allGenericRows.lookup "internal/bytealg.CountString" = none:=by kernel_rfl
 have h2:Extern.allTypedRows.lookup "internal/bytealg.CountString" = none:=by kernel_rfl
 have h3:Extern.allRows.lookup "internal/bytealg.CountString" = some Extern.BytealgCount.count:=by kernel_rfl
 unfold Extern.find;simp only [h,h1,h2,h3];rfl
theorem next_none {fn:Func} (h:fn.name = "internal/bytealg.IndexByteString" ∨ fn.name = "internal/bytealg.CountString") (ho:fn.origin = ""):Extern.findNext fn=none:=by
 have h1:Extern.allNextRows.lookup "internal/bytealg.IndexByteString" = none:=by kernel_rfl
 have h2:Extern.allNextRows.lookup "internal/bytealg.CountString" = none:=by kernel_rfl
 have h3:Extern.allNextRows.lookup "" = none:=by kernel_rfl
 unfold Extern.findNext;rcases h with h | h
 ·simp only [h,ho,h1,h3]; rfl
 ·simp only [h,ho,h2,h3]; rfl
theorem prim_done {call:CallSem} {d:Nat} {o:Oper} {k:PrimK} {f:FuncId} {c:Call} {aZ:List Opd} {x:Slot} {s':Slots} {h':Heap} (hf:FRel E lo ν μ (sget s) a.tmps w) (hr:Rel E μ h w) (hd:∀ t,o.dst=some t→t < a.tmps.size)
  (ho:o.op = .call c) (hcal:c.callee = .value (.func f)) (has:cOpds E c.args.toList=some aZ) (hk:primOf E.P f=some k) (hev:df call d (.ext (.pure (.prim k)) aZ) s h=some (x,s',h')) :
  OpDone E lo ν.ds μ w a o.dst ((execOp a.eval o).run E.P w) x s' h':=by
 simp only [df] at hev;split at hev;case h_2=>cases hev
 rename_i vs hvs;rw [ae] at hev;obtain ⟨⟨u,h1⟩,hap,hev⟩:=hev;cases hev;simp only [dj,evPure] at hap;rw [ae] at hap;obtain ⟨u',hap,e⟩:=hap;cases e;have hrel:=ke hf has hvs;unfold primOf at hk;split at hk;case h_2=>cases hk
 rename_i fn hfn;split at hk;case isFalse=>cases hk
 rename_i hbo
 have hrun:(execOp a.eval o).run E.P w=(callFunc f (c.args.map a.eval)).run E.P w:=by simp [execOp,ho,resolve,hcal,Act.eval,Deferred.ofValue,invoke]
 rw [hrun];have hargs:c.args.map a.eval=(c.args.toList.map a.eval).toArray:=by apply Array.ext'; simp
 rw [hargs];split at hk
 ·rename_i hname;cases hk;have hn:(fn.name == "runtime.NumGoroutine")=false:=by rw [hname]; decide
  unfold evPrim at hap;split at hap
  ·rename_i sb cb he1;cases he1;cases hap;simp only [VRels,VRel] at hrel;obtain ⟨_,_,e1,rfl,_,_,e2,rfl,rfl⟩:=hrel;subst e2;rw [e1];refine e8 hf hr hd (v:=.int .i64 (Lib.indexByte sb cb.toNat.toUInt8)) ?_ (by simp only [VRel]);rw [run_callFunc_extern hfn hn hbo.1 (next_none (.inl hname) hbo.2) (ib_find hname),Lib.run_indexByteString];rfl
  ·exact absurd ‹PrimK.indexByte=PrimK.countByte› (by simp)
  ·cases hap
 ·split at hk
  case isFalse =>
   split at hk;case isFalse=>cases hk
   cases hk;unfold evPrim at hap;split at hap
   ·exact absurd ‹PrimK.noZero=PrimK.indexByte› (by simp)
   ·exact absurd ‹PrimK.noZero=PrimK.countByte› (by simp)
   ·cases hap
  rename_i hname;cases hk;have hn:(fn.name == "runtime.NumGoroutine")=false:=by rw [hname]; decide
  unfold evPrim at hap;split at hap
  ·exact absurd ‹PrimK.countByte=PrimK.indexByte› (by simp)
  ·rename_i sb cb he1;cases he1;cases hap;simp only [VRels,VRel] at hrel;obtain ⟨_,_,e1,rfl,_,_,e2,rfl,rfl⟩:=hrel;subst e2;rw [e1];refine e8 hf hr hd (v:=.int .i64 (Lib.countByte sb cb.toNat.toUInt8)) ?_ (by simp only [VRel]);rw [run_callFunc_extern hfn hn hbo.1 (next_none (.inr hname) hbo.2) (cb_find hname),Lib.run_countString];rfl
  ·cases hap
theorem entry_done (hf:FRel E lo ν μ (sget s) a.tmps w) (hr:Rel E μ h w) {dst:Option Tmp} {rr:Result Next} (hd:∀ x,dst=some x→x < a.tmps.size) {x v:AVal} {u:Value} {h':Heap} (hx:VRel E μ x u)
  (he:dj .entry [x] h=some (v,h')) (hrun:rr=((Instr.entry u).run E.P w).andThen fun v w'=>.ok (.value v) w'):OpDone E lo ν.ds μ w a dst rr (.val v) s h':=by
 unfold dj at he;split at he
 case h_8 =>
  rename_i i e1 e2;cases e2;simp only [VRel] at hx;obtain ⟨ad,hit,mo,hmo,had⟩:=hx;split at he;case h_2=>cases he
  rename_i m since seen last hgi;split at he;case h_2=>cases he
  rename_i st es clock hst hgm;split at he;case isFalse=>cases he
  rename_i hcl;subst hcl;rw [ae] at he;obtain ⟨e,hfd,he⟩:=he;cases he;obtain ⟨mi,r',⟨q1,hbase⟩,q2,q3⟩:=hr.obj _ _ hgi;rw [q1] at hmo; cases hmo;have had':=had mi rfl;subst had';rw [hbase] at hit;obtain ⟨mm,es',p1,p2,p3,p4⟩:=hr.obj _ _ hgm;simp only [VRel] at q3;obtain ⟨bm,xo,e1,e2,e3⟩:=q3;rw [p1] at e2; cases e2;have e3:=e3 mm rfl;subst e3;have e1:r'=some mm.blk:=by simpa using e1
  subst e1
  have hfind:∀ (l:List (AVal × AVal × Nat)) (l':List MapEntry),l'.length=l.length→(∀ (k:Nat) (z:AVal × AVal × Nat),l[k]? = some z→∃ y,l'[k]? = some y∧VRel E μ z.1 y.key∧VRel E μ z.2.1 y.val∧y.born=z.2.2) →
    ∀ e,(l.find? fun e=>e.2.2 == st)=some e→∃ y,(l'.find? fun y=>y.born == st)=some y∧VRel E μ e.1 y.key∧VRel E μ e.2.1 y.val:=by
   intro l;induction l with
   | nil=>intro _ _ _ e he; simp at he
   | cons z l ih =>
    intro l' hl hh e he;cases l' with
    | nil=>simp at hl
    | cons y l' =>
     obtain ⟨y0,h1,h2,h3,h4⟩:=hh 0 z rfl;simp at h1;subst h1;rw [List.find?_cons] at he ⊢;rw [h4];cases hz:z.2.2 == st with
     | true =>
      rw [hz] at he;cases he;exact ⟨y,rfl,h2,h3⟩
     | false =>
      rw [hz] at he;exact ih l' (by simpa using hl) (fun k z hk=>hh (k+1) z (by simpa using hk)) e he
  obtain ⟨y,hy1,hy2,hy3⟩:=hfind es es'.toList (by simpa using p3) (fun k z hk=>by obtain ⟨y,y1,y2⟩:=p4 k z hk; exact ⟨y,by simpa using y1,y2⟩) e hfd;have hy1':es'.find? (fun y=>y.born == st)=some y:=by rw [← Array.find?_toList]; exact hy1
  have hback:seen.toArray.back? = some st:=by simpa using hst
  have hir:(Instr.entry u).run E.P w = .ok (.tuple #[y.key,y.val]) w:=by rw [hit];simp [Instr.entry,getObj,Sem.run,q2,p2,Result.andThen,hback,hy1']
  refine e8 hf hr hd (v:=.tuple #[y.key,y.val]) (by rw [hrun,hir]; rfl) ?_;simp only [VRel];exact ⟨_,rfl,by simp only [VRels]; exact ⟨_,_,rfl,hy2,_,_,rfl,hy3,rfl⟩⟩
 all_goals simp_all
theorem op_sound {call:CallSem} {loc:Bool} {o:Oper} {ao:AOp} {x:Slot} {s':Slots} {h':Heap} (hop:cOp E loc o.op=some ao) (hc1:∀ f aZ,ao ≠ .call f aZ) (hc2:∀ g aZ,ao ≠ .callg g aZ)
  (hev:df call (o.dst.getD 0) ao s h=some (x,s',h')) (hf:FRel E lo ν μ (sget s) a.tmps w) (hr:Rel E μ h w) (hlo:lo≤w.heap.size) (hd:∀ t,o.dst=some t→t < a.tmps.size) (hloc:loc=true→isStore o.op=false→o.dst.isSome=true) :
  OpDone E lo ν.ds μ w a o.dst ((execOp a.eval o).run E.P w) x s' h':=by
 cases ho:o.op with
 | move y =>
  rw [ho] at hop;simp only [cOp] at hop;rw [ae] at hop;obtain ⟨y',hy,rfl⟩:=hop;obtain ⟨u,hu,rfl,rfl,rfl⟩:=gd (by simpa only [df] using hev);exact e8 hf hr hd (by simp [execOp,ho]) (ce hf hy hu)
 | assign y =>
  rw [ho] at hop;simp only [cOp] at hop;rw [ae] at hop;obtain ⟨y',hy,rfl⟩:=hop;obtain ⟨u,hu,rfl,rfl,rfl⟩:=gd (by simpa only [df] using hev);exact e8 hf hr hd (by simp [execOp,ho]) (ce hf hy hu)
 | pick c y z =>
  rw [ho] at hop;simp only [cOp] at hop;split at hop;case h_2=>cases hop
  rename_i c' y' z' hc hy hz;cases hop;simp only [df] at hev;split at hev
  ·rename_i hcv;obtain ⟨u,hu,rfl,rfl,rfl⟩:=gd hev;have h1:=ce hf hc hcv;simp only [VRel] at h1;exact e8 hf hr hd (by simp [execOp,ho,h1,asBool]) (ce hf hy hu)
  ·rename_i hcv;obtain ⟨u,hu,rfl,rfl,rfl⟩:=gd hev;have h1:=ce hf hc hcv;simp only [VRel] at h1;exact e8 hf hr hd (by simp [execOp,ho,h1,asBool]) (ce hf hz hu)
  ·cases hev
 | alloc t =>
  rw [ho] at hop;simp only [cOp] at hop;split at hop;case h_2=>cases hop
  rename_i z e hz he;obtain ⟨v,k1,k2,k3⟩:=sr (E:=E) hz μ w
  have hrun:(execOp a.eval o).run E.P w = .ok (.value (.pointer (some ⟨w.heap.size,0,none⟩))) { w with heap:=w.heap.push (.cells v.cells t (0,0)) }:=by simp [execOp,ho,Instr.alloc,k1,newVar,newRow]
  cases loc with
  | true =>
   cases hop;simp only [df] at hev; cases hev;obtain ⟨d,hd'⟩:=Option.isSome_iff_exists.1 (hloc rfl (by rw [ho]; rfl));rw [hd'];exact done_var hf hr hlo (hd d hd') t k2 k3 hrun
  | false =>
   cases hop;simp only [df] at hev; cases hev;have hlen:h.size=μ.length:=hr.len.symm;rw [hlen];exact lw hf hr hd _ _ ⟨w.heap.size,0,v.cells.size,e⟩ rfl hrun rfl rfl rfl rfl (ql k2 k3 rfl) (ptr_new rfl)
 | box t y =>
  rw [ho] at hop;simp only [cOp] at hop;rw [ae] at hop;obtain ⟨y',hy,hop⟩:=hop
  have hrun:(execOp a.eval o).run E.P w = .ok (.value (.pointer (some ⟨w.heap.size,0,none⟩))) { w with heap:=w.heap.push (.cells (a.eval y).cells t (0,0)) }:=by simp [execOp,ho,Instr.box,newVar,newRow]
  cases loc with
  | true =>
   simp only [if_true] at hop;subst hop;simp only [df] at hev;split at hev;case h_2=>cases hev
   rename_i cs hcs;cases hev;rw [ip] at hcs;obtain ⟨u,hu,hcs⟩:=hcs;obtain ⟨k2,k3⟩:=qn (ce hf hy hu) hcs;obtain ⟨d,hd'⟩:=Option.isSome_iff_exists.1 (hloc rfl (by rw [ho]; rfl));rw [hd'];exact done_var hf hr hlo (hd d hd') t k2 k3 hrun
  | false =>
   simp only [de,if_false] at hop;subst hop;simp only [df] at hev;split at hev;case h_2=>cases hev
   rename_i cs hcs;cases hev;rw [ip] at hcs;obtain ⟨u,hu,hcs⟩:=hcs;obtain ⟨k2,k3⟩:=qn (ce hf hy hu) hcs;have hlen:h.size=μ.length:=hr.len.symm;rw [hlen];exact lw hf hr hd _ _ ⟨w.heap.size,0,(a.eval y).cells.size,cs.length⟩ rfl hrun rfl rfl rfl rfl (ql k2 k3 rfl) (ptr_new rfl)
 | build t ps =>
  rw [ho] at hop;simp only [cOp] at hop;split at hop;case h_3=>cases hop
  ·rename_i fs z hu hz;obtain ⟨v,k1,k2,k3⟩:=sr (E:=E) hz μ w;split at hop;case h_2=>cases hop
   rename_i pl hpl;rw [ae] at hop;obtain ⟨qs,hq,rfl⟩:=hop;obtain ⟨u,hu',rfl,rfl,rfl⟩:=gd (by simpa only [df] using hev);rw [ae] at hu';obtain ⟨cs,hcs,rfl⟩:=hu';obtain ⟨c',j1,j2,j3,_⟩:=sv hf hq hcs k2 k3;refine e8 hf hr hd (v:=.agg c') ?_ (by simp only [VRel]; exact ⟨_,rfl,j2,j3⟩);simp [execOp,ho,Instr.build,k1,run_underlying hu,Array.mapM_eq_mapM_toList,zan w hpl];rw [j1]; rfl
  ·rename_i n e z hu hz;obtain ⟨v,k1,k2,k3⟩:=sr (E:=E) hz μ w;split at hop;case h_2=>cases hop
   rename_i n hn;rw [ae] at hop;obtain ⟨qs,hq,rfl⟩:=hop;obtain ⟨u,hu',rfl,rfl,rfl⟩:=gd (by simpa only [df] using hev);rw [ae] at hu';obtain ⟨cs,hcs,rfl⟩:=hu';obtain ⟨c',j1,j2,j3,_⟩:=sv hf hq hcs k2 k3;refine e8 hf hr hd (v:=.agg c') ?_ (by simp only [VRel]; exact ⟨_,rfl,j2,j3⟩);simp [execOp,ho,Instr.build,k1,run_underlying hu,jc hn];rw [j1]; rfl
 | buildSlice t len ps =>
  rw [ho] at hop;simp only [cOp] at hop;split at hop;case h_2=>cases hop
  rename_i e hu;split at hop;case h_2=>cases hop
  rename_i n z hn hz;split at hop;case isFalse=>cases hop
  rename_i hh;obtain ⟨hl,hzl,h0⟩:=hh;rw [ae] at hop;obtain ⟨qs,hq,rfl⟩:=hop;obtain ⟨v,k1,k2,k3⟩:=sr (E:=E) hz μ w;simp only [df] at hev;split at hev;case h_2=>cases hev
  rename_i cs hcs;cases hev;obtain ⟨r1,r2⟩:=zf (n:=len) k2 k3 hzl h0;have hlen:h.size=μ.length:=hr.len.symm;rw [hlen];by_cases hz0:len*n=0
  ·-- no elements
   have hl0:len=0:=by
    rcases Nat.mul_eq_zero.1 hz0 with h1 | h1
    ·exact h1
    ·omega
   subst hl0;obtain ⟨c',j1,j2,j3,j4⟩:=sv (c:=#[]) hf hq hcs (by simp [rep,VRels]) (by simp [rep]);have hc'l:=j2.length;refine lw hf hr hd (.cells n cs) (.cells c' e (0,0)) ⟨w.heap.size,0,c'.size,n⟩ rfl (w1:={ w with heap:=w.heap.push (.cells c' e (0,0)) }) ?_ rfl rfl rfl rfl (ql j2 j3 rfl) (oc rfl (aj _) (fun k hk=>by cases hk; rfl) (by simp) (by decide));simp [execOp,ho,Instr.buildSlice,run_underlying hu,jc hn,show Array.range 0 = #[] from rfl];rw [j1];simp [newRow]
  ·obtain ⟨c',j1,j2,j3,j4⟩:=sv hf hq hcs r1 r2;refine lw hf hr hd (.cells n cs) (.cells c' e (0,0)) ⟨w.heap.size,0,c'.size,n⟩ rfl (w1:={ w with heap:=w.heap.push (.cells c' e (0,0)) }) ?_ rfl rfl rfl rfl (ql j2 j3 rfl) (oc rfl (aj _) (fun k hk=>by cases hk; rfl) (by rw [j4]; simp) (by have:=Nat.le_mul_of_pos_right len h0; omega));have hnl:¬ (16777216 < len*n):=by omega
   simp [execOp,ho,Instr.buildSlice,run_underlying hu,jc hn,hnl,hz0,k1];rw [j1];simp [newRow]
 | load t y =>
  rw [ho] at hop;simp only [cOp] at hop;split at hop;case h_2=>cases hop
  rename_i n y' hn hy;cases hop;simp only [df] at hev;split at hev;case h_2=>cases hev
  rename_i ad had;obtain ⟨u,hu,rfl,rfl,rfl⟩:=gd hev;unfold loadAt at hu;split at hu;case h_2=>cases hu
  rename_i cs o' hcs;obtain ⟨b,p,c,e,fr,k1,k2,k3,k4⟩:=yj hf hr hy had hcs;obtain ⟨v,k5,k6⟩:=load_rel (P:=E.P) hn k2 k3 k4 hu;exact e8 hf hr hd (by simp [execOp,ho,Instr.loadAt,Instr.sureAddr,k1,k5]) k6
 | store t y z =>
  rw [ho] at hop;simp only [cOp] at hop;split at hop;case h_2=>cases hop
  rename_i n y' z' hn hy hz;cases loc with
  | true =>
   simp only [if_true] at hop;cases hop;simp only [df] at hev;split at hev;case h_2=>cases hev
   rename_i vs hvs;rw [ae] at hev;obtain ⟨⟨v,h1⟩,hap,hev⟩:=hev;cases hev;obtain ⟨u1,u2,rfl,hu1,hu2⟩:=evs2 hvs;cases u1 <;> simp only [dj,reduceCtorEq] at hap
   rename_i q;cases q with
   | none=>cases hap
   | some q =>
    obtain ⟨i,o'⟩:=q;simp only at hap;split at hap;case h_2=>cases hap
    rename_i xs esz cs hxs hg;split at hap;case isFalse=>cases hap
    rename_i hh;cases hap;obtain ⟨k2,k3⟩:=qn (ce hf hz hu2) hxs;have hsz:(a.eval z).cells.size=n:=by have:=k2.length; simp at this; omega
    refine done_hstore hf hr hd (ce hf hy hu1) k2 k3 hg hh.2.1 hh.2.2 fun adr hadr=>?_
    simp [execOp,ho,Instr.storeAt,Instr.sureAddr,hadr,storeVar,jc hn,hsz]
  | false =>
  simp only [de,if_false] at hop;cases hop;simp only [df] at hev;split at hev;case h_2=>cases hev
  rename_i ad xs had hxs;split at hev;case isFalse=>cases hev
  rename_i hl;rw [ae] at hev;obtain ⟨⟨s1,h1⟩,hst,hev⟩:=hev;cases hev;rw [ip] at hxs;obtain ⟨u,hu,hxs⟩:=hxs;obtain ⟨k2,k3⟩:=qn (ce hf hz hu) hxs;have hsz:(a.eval z).cells.size=n:=by have:=k2.length; simp at this; omega
  refine done_store hf hr hd hy had k2 k3 hst fun adr hadr=>?_
  simp [execOp,ho,Instr.storeAt,Instr.sureAddr,hadr,storeVar,jc hn,hsz]
 | nilCheck y =>
  rw [ho] at hop;simp only [cOp] at hop;rw [ae] at hop;obtain ⟨y',hy,rfl⟩:=hop;simp only [df] at hev;split at hev
  ·rename_i p hp;obtain ⟨u,hu,rfl,rfl,rfl⟩:=gd hev;cases hu;have hv:=ce hf hy hp;have hv':=hv;obtain ⟨i,o'⟩:=p;simp only [VRel] at hv';obtain ⟨ad,e1,_⟩:=hv';rw [e1] at hv;exact e8 hf hr hd (by simp [execOp,ho,e1]) hv
  ·split at hev
   ·rename_i t o' had;split at hev
    ·rename_i hv;cases hev;obtain ⟨cs,hv⟩:=ul hv;have e1:=vl hf hy had hv;exact zam hf hr hd (by simp [execOp,ho,e1])
    ·cases hev
   ·cases hev
 | binOp op t y z yt =>
  rw [ho] at hop;simp only [cOp,cBin] at hop;split at hop;case h_2=>cases hop
  rename_i y' z' hy hz;have hx:(execOp a.eval o)=(do pure (Next.value (← (do eqGuard op t y z (a.eval y) (a.eval z); binOp op t (a.eval y) (a.eval z):Sem Value))):Sem Next):=by simp [execOp,ho]
  have plain:∀ {r:AVal},ao = .bin op y' z'→OpDone E lo ν.ds μ w a o.dst ((execOp a.eval o).run E.P w) x s' h':=by
   intro r hao;subst hao;simp only [df] at hev;split at hev;case h_2=>cases hev
   rename_i u1 u2 hu1 hu2;obtain ⟨u,hu,rfl,rfl,rfl⟩:=gd hev;have r1:=ce hf hy hu1;have r2:=ce hf hz hu2;cases u1 <;> (try (simp only [aBin] at hu; cases hu))
   case int k n =>
    cases u2 <;> (try (simp only [aBin] at hu; cases hu))
    case int k' n' =>
     simp only [VRel] at r1 r2;obtain ⟨v,j1,j2⟩:=run_bin_int (E:=E) (μ:=μ) (P:=E.P) (t:=t) w hu;refine e8 hf hr hd (v:=v) ?_ j2;rw [hx];apply nh;rw [r1,r2,Sem.run_bind,sw op t y z _ _ w (fun c=>by simp) (by simp),Result.andThen_ok];exact j1
   case str t1 =>
    cases u2 <;> (try (simp only [aBin] at hu; cases hu))
    case str t2 =>
     simp only [VRel] at r1 r2;obtain ⟨v,j1,j2⟩:=run_bin_str (E:=E) (μ:=μ) (P:=E.P) (t:=t) w hu;refine e8 hf hr hd (v:=v) ?_ j2;rw [hx];apply nh;rw [r1,r2,Sem.run_bind,sw op t y z _ _ w (fun c=>by simp) (by simp),Result.andThen_ok];exact j1
  have eqs:∀ (d:TypeDesc) (neg:Bool),E.P.underlying t=some d→cEq d neg y' z'=some ao→op=(if neg then .neq else .eql)→OpDone E lo ν.ds μ w a o.dst ((execOp a.eval o).run E.P w) x s' h':=by
   intro d neg hu hao hop';subst hop'
   have nilcase:∀ k,kindIs k d→ao = .eqnil k neg y' z'→OpDone E lo ν.ds μ w a o.dst ((execOp a.eval o).run E.P w) x s' h':=by
    intro k hk hao;subst hao;simp only [df] at hev;split at hev;case h_2=>cases hev
    rename_i u1 u2 hu1 hu2;obtain ⟨u,hu',rfl,rfl,rfl⟩:=gd hev;rw [ae] at hu';obtain ⟨b,hb,rfl⟩:=hu';obtain ⟨j1,j2⟩:=eqNil_rel (P:=E.P) w (ce hf hy hu1) (ce hf hz hu2) hu hk hb;refine e8 hf hr hd (v:=.bool (if neg then !b else b)) ?_ (by simp only [VRel]);rw [hx];exact nh (run_eq j1 y z j2)
   cases d <;> simp only [cEq] at hao <;> (try cases hao)
   ·-- two bools
    simp only [df] at hev;split at hev;case h_2=>cases hev
    rename_i b1 b2 hu1 hu2;obtain ⟨u,hu',rfl,rfl,rfl⟩:=gd hev;cases hu';have r1:=ce hf hy hu1;have r2:=ce hf hz hu2;simp only [VRel] at r1 r2;refine e8 hf hr hd (v:=.bool (if neg then !(b1 == b2) else (b1 == b2))) ?_ (by simp only [VRel,m6]);rw [hx,r1,r2];exact nh (run_eq rfl y z (beq_rel hu w))
   ·exact nilcase .ptr ⟨_,rfl⟩ rfl
   ·exact nilcase .slice ⟨_,rfl⟩ rfl
   ·exact nilcase .map ⟨_,_,rfl⟩ rfl
   ·exact nilcase .func ⟨_,_,_,rfl⟩ rfl
  have aggs:∀ (d:TypeDesc),E.P.underlying t=some d→((∃ fs,d = .struct fs)∨∃ n e,d = .array n e) →
    (if E.P.eqGuardType E.P.depth t then none else
     match op,ckOf E.P 20 t with
     | .eql,some ks=>some (.ext (.pure (.eqcells false ks)) [y',z'])
     | .neq,some ks=>some (.ext (.pure (.eqcells true ks)) [y',z'])
     | _,_=>none)=some ao→OpDone E lo ν.ds μ w a o.dst ((execOp a.eval o).run E.P w) x s' h':=by
   intro d hu hda hop2;split at hop2
   ·cases hop2
   rename_i hg;have hg:E.P.eqGuardType E.P.depth t=false:=by simpa using hg
   have fin:∀ (neg:Bool) (ks:List CK),ckOf E.P 20 t=some ks→op=(if neg then .neq else .eql)→ao = .ext (.pure (.eqcells neg ks)) [y',z']→OpDone E lo ν.ds μ w a o.dst ((execOp a.eval o).run E.P w) x s' h':=by
    intro neg ks hks hopn hao;subst hopn; subst hao;simp only [df] at hev;split at hev;case h_2=>cases hev
    rename_i vs hvs;rw [ae] at hev;obtain ⟨⟨v,h1⟩,hap,hev⟩:=hev;cases hev;obtain ⟨u1,u2,rfl,hu1,hu2⟩:=evs2 hvs;obtain ⟨rfl,b,rfl,hrun⟩:=aggs_rel hu hda hg hks (ce hf hy hu1) (ce hf hz hu2) hap y z (w:=w);refine e8 hf hr hd (v:=.bool b) ?_ (by simp only [VRel]);rw [hx];exact nh hrun
   split at hop2
   ·rename_i hks; cases hop2; exact fin false _ hks rfl rfl
   ·rename_i hks; cases hop2; exact fin true _ hks rfl rfl
   ·cases hop2
  split at hop
  ·cases hop; exact plain (r:=.nilFunc) rfl
  ·cases hop; exact plain (r:=.nilFunc) rfl
  ·rename_i fs hu;exact aggs _ hu (.inl ⟨_,rfl⟩) hop
  ·rename_i n e hu;exact aggs _ hu (.inr ⟨_,_,rfl⟩) hop
  ·rename_i d _ _ _ _ hu;split at hop
   ·exact eqs d false hu hop rfl
   ·exact eqs d true hu hop rfl
   ·cases hop
  ·cases hop
 | unOp op t y =>
  rw [ho] at hop;simp only [cOp] at hop;rw [ae] at hop;obtain ⟨y',hy,rfl⟩:=hop;simp only [df] at hev;split at hev;case h_2=>cases hev
  rename_i u1 hu1;obtain ⟨u,hu,rfl,rfl,rfl⟩:=gd hev;obtain ⟨v,j1,j2⟩:=un_rel (P:=E.P) w (ce hf hy hu1) hu;refine e8 hf hr hd (v:=v) ?_ j2;rw [show execOp a.eval o=(do pure (Next.value (← Op.unary op (a.eval y))):Sem Next) by simp [execOp,ho]];exact nh j1
 | convert src dst y =>
  rw [ho] at hop;simp only [cOp,cConv] at hop;have hx:(execOp a.eval o)=(do pure (Next.value (← convert src dst (a.eval y))):Sem Next):=by simp [execOp,ho]
  split at hop
  ·rename_i y' k0 k hy hs hdt;cases hop;simp only [df] at hev;split at hev;case h_2=>cases hev
   rename_i v hv;simp only [n7] at hev;split at hev;case h_2=>cases hev
   rename_i k' n;obtain ⟨u,hu,rfl,rfl,rfl⟩:=gd hev;cases hu;have r1:=ce hf hy hv;simp only [VRel] at r1;refine e8 hf hr hd (v:=.int k (k.wrap n)) ?_ (by simp only [VRel]);rw [hx,r1];exact nh (by simp [convert,run_underlying hs,run_underlying hdt,Conv.intToInt])
  ·rename_i y' hy hs hdt;cases hop;simp only [df] at hev;split at hev;case h_2=>cases hev
   rename_i v hv;simp only [n7] at hev;split at hev;case h_2=>cases hev
   rename_i t;obtain ⟨u,hu,rfl,rfl,rfl⟩:=gd hev;cases hu;have r1:=ce hf hy hv;simp only [VRel] at r1;refine e8 hf hr hd (v:=.string ⟨t.toArray⟩) ?_ (by simp only [VRel]);rw [hx,r1];exact nh (by simp [convert,run_underlying hs,run_underlying hdt])
  ·rename_i y' e hy hs hdt;split at hop;case isFalse=>cases hop
   rename_i hb;cases hop;rw [a7] at hb;have hroom:E.room=0:=by simpa using hb.2
   have hb:=hb.1
   have he:E.P.underlying e=some (.int .u8):=by
    unfold isByte at hb;split at hb
    ·assumption
    ·cases hb
   simp only [df] at hev;split at hev;case h_2=>cases hev
   rename_i v hv;simp only [n7] at hev;split at hev;case h_2=>cases hev
   rename_i t;split at hev;case isFalse=>cases hev
   rename_i ht63;cases hev;have r1:=ce hf hy hv;simp only [VRel] at r1;have hrun:=run_bytes_of_string (P:=E.P) w src dst e ⟨t.toArray⟩ hs hdt he;rw [pb] at hrun;have hg:=le_grown w t.length 0 e;generalize hC:bytesRow ⟨t.toArray⟩ (grownCap w t.length 0 e)=C at hrun
   have hCs:C.size=grownCap w t.length 0 e:=by rw [← hC]; simp [bytesRow,pb]; omega
   have hlen:h.size=μ.length:=hr.len.symm;rw [hlen];refine lw hf hr hd _ (.cells C e (C.size,C.size+1)) ⟨w.heap.size,0,C.size,1⟩ rfl (w1:=w.drew.alloc (.cells C e (C.size,C.size+1))) (by rw [hx,r1]; exact nh hrun) rfl rfl rfl rfl ?_ (oc rfl hg (fun k hk=>by cases hk) (by simp [hCs]) (grownCap_le_maxLen w t.length 0 e ht63));refine ⟨⟨w.heap.size,0,C.size,1⟩,C,e,(C.size,C.size+1),by simp,rfl,by simp,rfl,by simp [hCs]; exact hg,fun k v' hk=>?_,fun _=>⟨wq _,fun off ho'=>by simp only [hroom] at ho'; simp only; omega⟩⟩;simp only [bk,ae] at hk;obtain ⟨b,hb',rfl⟩:=hk;refine ⟨rfl,.int .u8 b.toNat,?_,by simp only [VRel]⟩;have hkl:=ah hb';rw [← hC];simp only [bytesRow,ed];rw [r9 (by simpa using hkl)];simp [hb']
  ·rename_i y' e hy hs hdt;split at hop;case isFalse=>cases hop
   rename_i hb;cases hop
   have he:E.P.underlying e=some (.int .u8):=by
    unfold isByte at hb;split at hb
    ·assumption
    ·cases hb
   simp only [df] at hev;split at hev;case h_2=>cases hev
   rename_i v hv;simp only [n7] at hev;split at hev;case h_2=>cases hev
   rename_i ad n c;split at hev;case h_2=>cases hev
   rename_i t ht;obtain ⟨u,hu,rfl,rfl,rfl⟩:=gd hev;cases hu;rw [ip] at ht;obtain ⟨cs,hcs,ht⟩:=ht;have r1:=ce hf hy hv;obtain ⟨l,n1,o1,o2,o3,o4,o5,o6⟩:=qm hr r1 hcs;obtain ⟨ns,e2,e3⟩:=yh ht o1;simp only [alen] at o5;subst o5;refine e8 hf hr hd (v:=.string ⟨t.toArray⟩) ?_ (by simp only [VRel]);rw [hx];apply nh;cases ad with
   | none =>
    simp only [VRel] at r1;obtain ⟨r2,_,r3⟩:=r1;subst r2;have hl0:l=[]:=cg (by simpa using o4);rw [hl0] at e2;have hns:ns=[]:=by simpa using e2.symm
    rw [r3,run_convert_bytes_nil (P:=E.P) w src e hs he 0 0 dst hdt,e3,hns];rfl
   | some io =>
    simp only [VRel] at r1;obtain ⟨adr,cap,r2,_⟩:=r1;have hl:=o6 E.P w rfl;rw [r2] at hl;simp only [Builtin.firstCells,r0] at hl;rw [e2] at hl;rw [r2,run_convert_bytes_string w src dst e (some adr) n1 cap hs he hdt,run_bytesToString w adr n1 cap ns hl,zal,e3];rfl
  ·rename_i y' e e' hy hs hdt;split at hop;case isFalse=>cases hop
   rename_i hb;cases hop;simp only [a7,beq_iff_eq] at hb;obtain ⟨⟨hb,hsd⟩,hroom⟩:=hb;subst hsd
   have he:E.P.underlying e=some (.int .u8):=by
    unfold isByte at hb;split at hb
    ·assumption
    ·cases hb
   simp only [df] at hev;split at hev;case h_2=>cases hev
   rename_i v hv;simp only [n7] at hev;split at hev;case h_2=>cases hev
   rename_i i o1 n c;split at hev;case h_2=>cases hev
   rename_i e1 cs hg;split at hev;case isFalse=>cases hev
   rename_i hh;cases hev;exact mark_done hf hr hd hs he hroom (ce hf hy hv) hg hh.1 hh.2 (by rw [hx,Sem.run_bind]; rfl)
  ·cases hop
 | makeFunc fn fs cs =>
  rw [ho] at hop;cases fn with
  | func f =>
   simp only [cOp] at hop;split at hop;case h_2=>cases hop
   rename_i g f' c' hg hff hcc;cases hop;simp only [df] at hev;split at hev;case h_2=>cases hev
   rename_i fv cv hfv hcv;obtain ⟨u,hu,rfl,rfl,rfl⟩:=gd hev;cases hu;refine e8 hf hr hd (v:=.func (.func f) (fs.map a.eval) (cs.map a.eval)) (by simp [execOp,ho,Instr.makeFunc]) ?_;simp only [VRel];exact ⟨f,_,_,rfl,hg,by simpa using ke hf hff hfv,by simpa using ke hf hcc hcv⟩
  | _=>simp [cOp] at hop
 | makeSlice t l c =>
  rw [ho] at hop;simp only [cOp] at hop;split at hop;case h_2=>cases hop
  rename_i e hu;split at hop;case h_2=>cases hop
  rename_i i z l' c' hi hz hl hc;split at hop;case isFalse=>cases hop
  rename_i hh;obtain ⟨hzl,h0⟩:=hh;cases hop;simp only [df] at hev;split at hev;case h_2=>cases hev
  rename_i kl n kc m hlv hcv;split at hev;case isFalse=>cases hev
  rename_i hb;obtain ⟨b1,b2,b3,b4,rfl,rfl⟩:=hb;cases hev;have r1:=ce hf hl hlv;have r2:=ce hf hc hcv;simp only [VRel] at r1 r2;obtain ⟨i',v,hi',hv,hzt⟩:=info_zero hz;rw [hi] at hi'; cases hi';obtain ⟨k2,k3⟩:=td (E:=E) hzt μ;obtain ⟨j1,j2⟩:=zf (n:=m.toNat) k2 k3 hzl h0;have hlen:h.size=μ.length:=hr.len.symm;rw [hlen];obtain ⟨n0,rfl⟩:=Int.eq_ofNat_of_zero_le b1;obtain ⟨m0,rfl⟩:=Int.eq_ofNat_of_zero_le (show 0≤m by omega);simp only [Int.toNat_natCast] at j1 j2 ⊢
  have hbb:i.bytes*(m0:Int)≤281474976710656:=by rw [Int.mul_comm]; omega
  have hmk:=zah (P:=E.P) t e i v hu hi hv n0 m0 (by omega) hbb (by omega) w;generalize hC:((Array.range (m0*i.size)).map fun j=>v.cells[j % v.cells.size]!)=C at j1 hmk;have hCs:C.size=m0*i.size:=by rw [← hC]; simp
  refine lw hf hr hd _ (.cells C e (0,0)) ⟨w.heap.size,0,C.size,i.size⟩ rfl (w1:={ w with heap:=w.heap.push (.cells C e (0,0)) }) ?_ rfl rfl rfl rfl (ql j1 j2 rfl) (oc (n:=n0) (cap:=m0) rfl (by omega) (fun k hk=>by cases hk; rfl) (by simp [hCs]) (by omega));rw [show execOp a.eval o=(do pure (Next.value (← Instr.makeSlice t (a.eval l) (a.eval c))):Sem Next) by simp [execOp,ho],r1,r2];exact nh hmk
 | slice t y l1 l2 l3 =>
  rw [ho] at hop;have hop2:=hop
  have hao:∃ k y' m1 m2 m3,ao = .slice k y' m1 m2 m3:=by
   simp only [cOp] at hop2;split at hop2
   ·split at hop2
    ·cases hop2; exact ⟨_,_,_,_,_,rfl⟩
    ·rw [ae] at hop2; obtain ⟨_,_,rfl⟩:=hop2; exact ⟨_,_,_,_,_,rfl⟩
    ·rw [ae] at hop2; obtain ⟨_,_,rfl⟩:=hop2; exact ⟨_,_,_,_,_,rfl⟩
    ·cases hop2
   ·cases hop2
  obtain ⟨k,y',m1,m2,m3,hao⟩:=hao;have hop':cOp E false (.slice t y l1 l2 l3)=some ao:=by rw [← hop]; rfl
  subst hao;simp only [df] at hev;split at hev;case h_2=>cases hev
  rename_i lv hv mv hlv hhv hmv;obtain ⟨u,hu,rfl,rfl,rfl⟩:=gd hev;obtain ⟨v,j1,j2⟩:=slice_rel hf hr hop' rfl hlv hhv hmv hu;refine e8 hf hr hd (v:=v) ?_ j2;rw [show execOp a.eval o=(do pure (Next.value (← Instr.sliceAt t (a.eval y) (l1.map a.eval) (l2.map a.eval) (l3.map a.eval))):Sem Next) by simp [execOp,ho]];exact nh j1
 | fieldAddr t y fi =>
  rw [ho] at hop;simp only [cOp] at hop;split at hop;case h_2=>cases hop
  rename_i fs y' hu hy;split at hop;case h_2=>cases hop
  rename_i fl hfl;split at hop;case h_2=>cases hop
  rename_i k hk;cases hop;have hz:=jc (P:=E.P) hk w
  have hrun:∀ b o',a.eval y = .pointer (some ⟨b,o',none⟩)→(execOp a.eval o).run E.P w = .ok (.value (.pointer (some ⟨b,o'+fl.offset,none⟩))) w:=by intro b o' hy';simp [execOp,ho,Instr.fieldAt,run_underlying hu,hfl,hy',Instr.sureAddr,fieldPlace,hz,od]
  simp only [df] at hev;split at hev
  ·rename_i i o' had;obtain ⟨u,hu',rfl,rfl,rfl⟩:=gd hev;cases hu';obtain ⟨adr,k1,xx,k2,k3⟩:=sy hf hy had;cases xx with
   | none =>
    obtain ⟨b,o2,sp⟩:=adr;cases sp with
    | none =>
     refine e8 hf hr hd (hrun b o2 k1) ?_;simp only [VRel];exact ⟨_,rfl,none,k2,fun m hm=>by cases hm⟩
    | some sp =>
     refine e8 hf hr hd (v:=.pointer (some ((⟨b,o2,some sp⟩:Addr).add fl.offset))) ?_ ?_
     ·simp [execOp,ho,Instr.fieldAt,run_underlying hu,hfl,k1,Instr.sureAddr,fieldPlace,hz]
     ·simp only [VRel];exact ⟨_,rfl,none,k2,fun m hm=>by cases hm⟩
   | some m =>
    have:=k3 m rfl; subst this;refine e8 hf hr hd (hrun _ _ k1) ?_;simp only [VRel];exact ⟨_,rfl,some m,k2,fun m' hm=>by cases hm; rw [mz]⟩
  ·rename_i t' o' had;split at hev
   ·rename_i hv;cases hev;obtain ⟨cs,hv⟩:=ul hv;exact zam hf hr hd (hrun _ _ (vl hf hy had hv))
   ·cases hev
  ·cases hev
 | field t y fi =>
  rw [ho] at hop;simp only [cOp] at hop;split at hop;case h_2=>cases hop
  rename_i fs y' hu hy;split at hop;case h_2=>cases hop
  rename_i fl hfl;rw [ae] at hop;obtain ⟨n,hn,rfl⟩:=hop;simp only [df] at hev;split at hev;case h_2=>cases hev
  rename_i cs hcs;obtain ⟨u,hu',rfl,rfl,rfl⟩:=gd hev;have r1:=ce hf hy hcs;simp only [VRel] at r1;obtain ⟨c,r2,r3,r4⟩:=r1;obtain ⟨v,j1,j2⟩:=po (P:=E.P) w hn r3 r4 hu';exact e8 hf hr hd (by simp [execOp,ho,Instr.field,run_underlying hu,hfl,r2,asAgg,j1]) j2
 | indexAddr t y z =>
  rw [ho] at hop;simp only [cOp] at hop;split at hop
  ·rename_i e y' z' hu hy hz;rw [ae] at hop;obtain ⟨n,hn,rfl⟩:=hop;simp only [df] at hev;split at hev;case h_2=>cases hev
   rename_i b o' len cap iv hyv hzv;obtain ⟨u,hu',rfl,rfl,rfl⟩:=gd hev;rw [ae] at hu';obtain ⟨j,hj,rfl⟩:=hu';obtain ⟨kd,i,r1,r2,r3,r4⟩:=nr (ce hf hz hzv) hj;have r5:=ce hf hy hyv;simp only [VRel] at r5;obtain ⟨ad,cp,q1,q2,q3,q4,q5,q6⟩:=r5;obtain ⟨xx,q7,q8⟩:=q3 (by omega);refine e8 hf hr hd (v:=.pointer (some (ad.add (j*n)))) ?_ ?_
   ·have hlt:i < (len:Int):=r3;simp [execOp,ho,Instr.indexAt,r1,asIntOf,run_underlying hu,q1,r2,hlt,jc hn,r4]
   ·simp only [VRel];exact ⟨_,rfl,xx,q7,fun m hm=>by rw [q8 m hm,od,mz]⟩
  ·rename_i len e y' z' hu hy hz;rw [ae] at hop;obtain ⟨n,hn,rfl⟩:=hop
   have hrun:∀ ad kd i,a.eval y = .pointer (some ad)→a.eval z = .int kd i→0≤i→i < (len:Int) →
     (execOp a.eval o).run E.P w = .ok (.value (.pointer (some (ad.add (i.toNat*n))))) w:=by
    intro ad kd i h1 h2 h3 h4;simp [execOp,ho,Instr.indexAt,h2,asIntOf,run_underlying hu,h1,Instr.sureAddr,h3,h4,jc hn]
   simp only [df] at hev;split at hev
   ·rename_i b o' iv had hzv;obtain ⟨u,hu',rfl,rfl,rfl⟩:=gd hev;rw [ae] at hu';obtain ⟨j,hj,rfl⟩:=hu';obtain ⟨kd,i,r1,r2,r3,r4⟩:=nr (ce hf hz hzv) hj;obtain ⟨adr,k1,xx,k2,k3⟩:=sy hf hy had;refine e8 hf hr hd (hrun adr kd i k1 r1 r2 r3) ?_;simp only [VRel];exact ⟨_,rfl,xx,k2,fun m hm=>by rw [k3 m hm,od,mz,r4]⟩
   ·rename_i t' o' iv had hzv;split at hev;case isFalse=>cases hev
    rename_i hv;rw [ae] at hev;obtain ⟨j,hj,hev⟩:=hev;cases hev;obtain ⟨kd,i,r1,r2,r3,r4⟩:=nr (ce hf hz hzv) hj;obtain ⟨cs,hv⟩:=ul hv;have k1:=vl hf hy had hv;have:=hrun _ kd i k1 r1 r2 r3;rw [od,← r4] at this;exact zam hf hr hd this
   ·cases hev
  ·cases hop
 | index t y z =>
  rw [ho] at hop;simp only [cOp] at hop;split at hop
  ·rename_i y' z' hu hy hz;cases hop;simp only [df] at hev;split at hev;case h_2=>cases hev
   rename_i t' iv hyv hzv;obtain ⟨u,hu',rfl,rfl,rfl⟩:=gd hev;rw [ip] at hu';obtain ⟨j,hj,hu'⟩:=hu';rw [ae] at hu';obtain ⟨b,hb,rfl⟩:=hu';obtain ⟨kd,i,r1,r2,r3,r4⟩:=nr (ce hf hz hzv) hj;have r5:=ce hf hy hyv;simp only [VRel] at r5;refine e8 hf hr hd (v:=.int .u8 b.toNat) ?_ (by simp only [VRel]);have hb':(⟨t'.toArray⟩:ByteArray)[i.toNat]? = some b:=by rw [string_get,← r4]; exact hb
   simp [execOp,ho,Instr.index,r1,asIntOf,run_underlying hu,r5,r2,hb']
  ·rename_i len e y' z' hu hy hz;split at hop;case h_2=>cases hop
   rename_i n k hn hk;cases hop;simp only [df] at hev;split at hev;case h_2=>cases hev
   rename_i cs iv hyv hzv;obtain ⟨u,hu',rfl,rfl,rfl⟩:=gd hev;rw [ip] at hu';obtain ⟨j,hj,hu'⟩:=hu';obtain ⟨kd,i,r1,r2,r3,r4⟩:=nr (ce hf hz hzv) hj;have r5:=ce hf hy hyv;simp only [VRel] at r5;obtain ⟨c,r6,r7,r8⟩:=r5;obtain ⟨v,j1,j2⟩:=po (P:=E.P) w hk r7 r8 hu';rw [r4] at j1;have hlt:i < (len:Int):=r3;exact e8 hf hr hd (v:=v) (by simp [execOp,ho,Instr.index,r1,asIntOf,run_underlying hu,r6,r2,hlt,jc hn,j1]) j2
  ·cases hop
 | extract y i =>
  rw [ho] at hop;simp only [cOp] at hop;rw [ae] at hop;obtain ⟨y',hy,rfl⟩:=hop;simp only [df] at hev;split at hev;case h_2=>cases hev
  rename_i vs hvs;obtain ⟨u,hu,rfl,rfl,rfl⟩:=gd hev;have r1:=ce hf hy hvs;simp only [VRel] at r1;obtain ⟨vs',r2,r3⟩:=r1;obtain ⟨v,r4,r5⟩:=r3.get hu;have r4':vs'[i]? = some v:=by simpa using r4
  exact e8 hf hr hd (v:=v) (by simp [execOp,ho,Instr.extract,r2,r4']) r5
 | call c =>
  rw [ho] at hop;simp only [cOp,cCall] at hop;split at hop
  ·rename_i f hcal;split at hop
   ·cases hop; exact absurd rfl (hc2 _ _)
   ·rename_i aZ hg has;rw [ae] at hop;obtain ⟨k,hk,rfl⟩:=hop;exact prim_done hf hr hd ho hcal has hk hev
   ·cases hop
  ·split at hop
   ·cases hop; exact absurd rfl (hc1 _ _)
   ·cases hop
  ·rename_i b hcal
   have hx:∃ bs,∀ (ts:List TypeId) (l:List Operand),c.argTypes.toList=ts→c.args.toList=l→(execOp a.eval o).run E.P w=(builtin b ts.toArray o.type bs (l.map a.eval).toArray).run E.P w:=by
    refine ⟨c.args.map fun | .const _=>true | _=>false,fun ts l hts hl=>?_⟩;have h1:c.args.map a.eval=(l.map a.eval).toArray:=by subst hl; apply Array.ext'; simp
    have h2:c.argTypes=ts.toArray:=by rw [← hts]
    simp only [execOp,ho,resolve,hcal,h1,← h2];rfl
   obtain ⟨bs,hx⟩:=hx;split at hop
   ·-- len
    rename_i t y hat hargs;have hx:=hx _ _ hat hargs
    have fin:∀ {u:AVal} {v:Value},(Builtin.len_ #[t] o.type #[a.eval y]).run E.P w = .ok v w→VRel E μ u v→OpDone E lo ν.ds μ w a o.dst ((execOp a.eval o).run E.P w) (.val u) s h:=by intro u v h1 h2;refine e8 hf hr hd (v:=v) ?_ h2;rw [hx];exact nh h1
    split at hop
    ·rename_i hu;rw [ae] at hop;obtain ⟨y',hy,rfl⟩:=hop;simp only [df] at hev;split at hev;case h_2=>cases hev
     rename_i v hv;obtain ⟨u,hu',rfl,rfl,rfl⟩:=gd hev;simp only [evLen] at hu';split at hu';case h_2=>cases hu'
     cases hu';have r1:=ce hf hy hv;simp only [VRel] at r1;exact fin (by simp [Builtin.len_,run_underlying hu,r1,pb]; rfl) (by simp only [VRel,goInt])
    ·rename_i hu;rw [ae] at hop;obtain ⟨y',hy,rfl⟩:=hop;simp only [df] at hev;split at hev;case h_2=>cases hev
     rename_i v hv;obtain ⟨u,hu',rfl,rfl,rfl⟩:=gd hev;simp only [evLen] at hu';split at hu';case h_2=>cases hu'
     cases hu';rename_i ad n cp;have r1:=ce hf hy hv;cases ad with
     | none =>
      simp only [VRel] at r1;obtain ⟨r2,_,r3⟩:=r1;subst r2;exact fin (v:=goInt 0) (by simp [Builtin.len_,run_underlying hu,r3]) (by simp only [VRel,goInt]; rfl)
     | some p =>
      simp only [VRel] at r1;obtain ⟨adr,cap,r2,_⟩:=r1;exact fin (by simp [Builtin.len_,run_underlying hu,r2]; rfl) (by simp only [VRel,goInt])
    ·rename_i hu;rw [ae] at hop;obtain ⟨y',hy,rfl⟩:=hop;simp only [df] at hev;split at hev;case h_2=>cases hev
     rename_i v hv;obtain ⟨u,hu',rfl,rfl,rfl⟩:=gd hev;simp only [evLen] at hu';split at hu'
     ·cases hu';have r1:=ce hf hy hv;simp only [VRel] at r1;exact fin (v:=goInt 0) (by simp [Builtin.len_,run_underlying hu,r1]) (by simp only [VRel,goInt])
     ·rename_i i;split at hu'
      ·rename_i es ck hg;cases hu';have r1:=ce hf hy hv;simp only [VRel] at r1;obtain ⟨b',xx,r2,r3,r4⟩:=r1;obtain ⟨m,es',q1,q2,q3,_⟩:=hr.obj i _ hg;rw [r3] at q1; cases q1;have:=r4 m rfl; subst this;refine fin (v:=.int .i64 es'.size) ?_ (by simp only [VRel,q3]);have hgo:(getObj m.blk).run E.P w = .ok (.map es' ck) w:=by simp [getObj,Sem.run,q2]
       simp [Builtin.len_,run_underlying hu,r2,hgo,goInt]
      ·cases hu'
     ·cases hu'
    ·cases hop
   ·-- append
    rename_i t u y z hat hargs;have hx:=hx _ _ hat hargs
    have fin:∀ (e:TypeId) (i:TypeInfo) (zv:Value) (y' z':Opd),E.P.underlying t=some (.slice e)→((∃ e',E.P.underlying u=some (.slice e'))∨E.P.underlying u=some .string)→g8 E y=some y'→g8 E z=some z' →
      E.P.info? e=some i→i.zero=some zv→zv.cells.size=i.size→ao = .append i.size i.bytes y' z'→OpDone E lo ν.ds μ w a o.dst ((execOp a.eval o).run E.P w) x s' h':=by
     intro e i zv y' z' ht hu hy hz hi hzv hzs hao;subst hao;simp only [df] at hev;split at hev;case h_2=>cases hev
     rename_i u1 u2 hu1 hu2;rw [ae] at hev;obtain ⟨⟨v,h1⟩,hap,hev⟩:=hev;cases hev;have r1:=ce hf hy hu1;have r2:=ce hf hz hu2;exact append_done (ty:=o.type) hf hr hd ht hu hi hzv hzs r1 r2 hap (by rw [hx]; simp only [builtin]; rw [Sem.run_bind]; rfl)
    split at hop
    ·rename_i e e' y' z' ht hu hy hz;split at hop;case h_2=>cases hop
     rename_i i hi;split at hop;case h_2=>cases hop
     rename_i zv hzv;split at hop;case isFalse=>cases hop
     rename_i hzs;cases hop;exact fin e i zv y' z' ht (.inl ⟨_,hu⟩) hy hz hi hzv hzs rfl
    ·rename_i e y' z' ht hu hy hz;split at hop;case h_2=>cases hop
     rename_i i hi;split at hop;case h_2=>cases hop
     rename_i zv hzv;split at hop;case isFalse=>cases hop
     rename_i hzs;cases hop;exact fin e i zv y' z' ht (.inr hu) hy hz hi hzv hzs rfl
    ·rename_i e kq y' z' ht hu hy hz;split at hop;case h_2=>cases hop
     rename_i i zz hi hzz;split at hop;case isFalse=>cases hop
     rename_i hzl;cases hop;simp only [df] at hev;split at hev;case h_2=>cases hev
     rename_i vs hvs;rw [ae] at hev;obtain ⟨⟨v,h1⟩,hap,hev⟩:=hev;cases hev;obtain ⟨u1,u2,rfl,hu1,hu2⟩:=evs2 hvs;exact appz_done (ty:=o.type) hf hr hd ht hu hi hzz hzl.1 hzl.2 (ce hf hy hu1) (ce hf hz hu2) hap (by rw [hx]; simp only [builtin]; rw [Sem.run_bind]; rfl)
    ·cases hop
   ·-- cap
    rename_i t y hat hargs;have hx:=hx _ _ hat hargs;split at hop;case h_2=>cases hop
    rename_i e hu;rw [ae] at hop;obtain ⟨y',hy,rfl⟩:=hop;simp only [df,evs] at hev;cases hv:y'.ev s with
    | none=>rw [hv] at hev; cases hev
    | some v =>
     rw [hv] at hev;simp only at hev;rw [ae] at hev;obtain ⟨⟨u,h1⟩,hap,hev⟩:=hev;cases hev;have r1:=ce hf hy hv;simp only [dj,evPure] at hap;rw [ae] at hap;obtain ⟨u',hap,hu'⟩:=hap;cases hu';cases v <;> simp only [evCap,reduceCtorEq] at hap
     rename_i ad n cp;cases cp with
     | none=>cases hap
     | some k =>
      simp only at hap;cases hap
      have:∃ b n',a.eval y = .slice b n' k:=by
       cases ad with
       | none=>simp only [VRel] at r1; obtain ⟨_,e1,e2⟩:=r1; cases e1; exact ⟨_,_,e2⟩
       | some p=>simp only [VRel] at r1; obtain ⟨b,cap,e1,_,_,e2,_⟩:=r1; rw [e2 k rfl] at e1; exact ⟨_,_,e1⟩
      obtain ⟨b,n',e1⟩:=this;refine e8 hf hr hd (v:=.int .i64 k) ?_ (by simp only [VRel]);rw [hx];refine nh (S:=Builtin.cap_ #[t] o.type #[a.eval y]) ?_;simp [Builtin.cap_,run_underlying hu,e1,goInt]
   ·-- copy
    rename_i t u y z hat hargs;have hx:=hx _ _ hat hargs;split at hop;case h_2=>cases hop
    rename_i e e' y' z' ht hu hy hz;rw [ae] at hop;obtain ⟨n,hn,rfl⟩:=hop;simp only [df] at hev;split at hev;case h_2=>cases hev
    rename_i vs hvs;rw [ae] at hev;obtain ⟨⟨v,h1⟩,hap,hev⟩:=hev;cases hev;obtain ⟨u1,u2,rfl,hu1,hu2⟩:=evs2 hvs;exact copy_done (ty:=o.type) hf hr hd ht hn (ce hf hy hu1) (ce hf hz hu2) hap (by rw [hx]; simp only [builtin]; rw [Sem.run_bind]; rfl)
   ·-- clear
    rename_i t y hat hargs;have hx:=hx _ _ hat hargs;split at hop;case h_2=>cases hop
    rename_i e ht;split at hop;case h_2=>cases hop
    rename_i n z y' hn hz hy;split at hop;case isFalse=>cases hop
    rename_i hzl;cases hop;simp only [df] at hev;split at hev;case h_2=>cases hev
    rename_i vs hvs;rw [ae] at hev;obtain ⟨⟨v,h1⟩,hap,hev⟩:=hev;cases hev;simp only [evs] at hvs;split at hvs;case h_2=>cases hvs
    rename_i u us hu1 hus;cases hus; cases hvs;exact clear_done (ty:=o.type) hf hr hd ht hz hzl.1 hzl.2 (ce hf hy hu1) hap (by rw [hx]; simp only [builtin]; rw [Sem.run_bind]; rfl)
   ·-- delete
    rename_i t ts y z hat hargs;have hx:=hx _ _ hat hargs;split at hop;case h_2=>cases hop
    rename_i k e hu;split at hop;case h_2=>cases hop
    rename_i kn y' z' hk hy hz;cases hop;simp only [df] at hev;split at hev;case h_2=>cases hev
    rename_i vs hvs;rw [ae] at hev;obtain ⟨⟨v,h1⟩,hap,hev⟩:=hev;cases hev;obtain ⟨u1,u2,rfl,hu1,hu2⟩:=evs2 hvs;exact delete_done hf hr hd (ts:=(t :: ts).toArray) (ty:=o.type) rfl hu hk (ce hf hy hu1) (ce hf hz hu2) hap (by rw [hx]; simp only [builtin]; rw [Sem.run_bind]; rfl)
   ·-- min
    rename_i ts ys;rw [ae] at hop;obtain ⟨ys',hys,rfl⟩:=hop;have hx:=hx _ _ rfl rfl;simp only [df] at hev;split at hev;case h_2=>cases hev
    rename_i v0 vs hvs;obtain ⟨u,hu,rfl,rfl,rfl⟩:=gd hev;have r1:=ke hf hys hvs;simp only [VRels] at r1;obtain ⟨x0,xs,e1,r2,r3⟩:=r1;obtain ⟨v,j1,j2⟩:=zao (P:=E.P) w r2 r3 hu;refine e8 hf hr hd (v:=v) ?_ j2;rw [hx];refine nh (S:=Builtin.min_ c.argTypes o.type (c.args.toList.map a.eval).toArray) ?_;simp only [Builtin.min_,e1];simpa using j1
   ·rename_i ts ys;rw [ae] at hop;obtain ⟨ys',hys,rfl⟩:=hop;have hx:=hx _ _ rfl rfl;simp only [df] at hev;split at hev;case h_2=>cases hev
    rename_i v0 vs hvs;obtain ⟨u,hu,rfl,rfl,rfl⟩:=gd hev;have r1:=ke hf hys hvs;simp only [VRels] at r1;obtain ⟨x0,xs,e1,r2,r3⟩:=r1;obtain ⟨v,j1,j2⟩:=zao (P:=E.P) w r2 r3 hu;refine e8 hf hr hd (v:=v) ?_ j2;rw [hx];refine nh (S:=Builtin.max_ c.argTypes o.type (c.args.toList.map a.eval).toArray) ?_;simp only [Builtin.max_,e1];simpa using j1
   ·cases hop
  ·cases hop
 | makeMap t hint =>
  have fin:ao = .ext .mkmap []→(hint=none∨∃ k n,hint=some (.const (.int k n))∧∃ a b,E.P.underlying t=some (.map a b))→OpDone E lo ν.ds μ w a o.dst ((execOp a.eval o).run E.P w) x s' h':=by
   intro hao hh;subst hao;simp only [df,evs,dj,b9] at hev;cases hev;have hlen:h.size=μ.length:=hr.len.symm;rw [hlen];refine lw hf hr hd (.map [] 0) (.map #[] 0) ⟨w.heap.size,0,0,0⟩ rfl (w1:={ w with heap:=w.heap.push (.map #[] 0) }) (v:=.map (some w.heap.size)) ?_ rfl rfl rfl rfl ?_ ?_
   ·rcases hh with rfl | ⟨k,n,rfl,p,q,hu⟩
    ·simp [execOp,ho,Instr.makeMap]
    ·simp [execOp,ho,Instr.makeMap,run_underlying hu,asInt,asIntOf,Act.eval]
   ·exact ⟨⟨w.heap.size,0,0,0⟩,#[],by rw [aw (aj _)]; simp,by simp,rfl,by simp⟩
   ·simp only [VRel];exact ⟨w.heap.size,some ⟨w.heap.size,0,0,0⟩,rfl,by rw [aw (aj _)]; simp,fun m hm=>by cases hm; rfl⟩
  rw [ho] at hop;cases hint with
  | none=>simp only [cOp] at hop; cases hop; exact fin rfl (.inl rfl)
  | some y =>
   cases y with
   | const v =>
    cases v with
    | int k n =>
     simp only [cOp] at hop;split at hop
     ·rename_i hu;cases hop;exact fin rfl (.inr ⟨_,_,rfl,_,_,hu⟩)
     ·cases hop
    | _=>simp [cOp] at hop
   | _=>simp [cOp] at hop
 | lookup t y z ok =>
  rw [ho] at hop;simp only [cOp] at hop;split at hop;case h_2=>cases hop
  rename_i k e hu;split at hop;case h_2=>cases hop
  rename_i kn zv y' z' hk hzv hy hz;cases hop;simp only [df] at hev;split at hev;case h_2=>cases hev
  rename_i vs hvs;rw [ae] at hev;obtain ⟨⟨v,h1⟩,hap,hev⟩:=hev;cases hev;obtain ⟨u1,u2,rfl,hu1,hu2⟩:=evs2 hvs;obtain ⟨rfl,r,j1,j2⟩:=lookup_rel hr hu hk hzv (ce hf hy hu1) (ce hf hz hu2) hap;refine e8 hf hr hd (v:=r) ?_ j2;simp only [execOp,ho];exact nh j1
 | mapUpdate t m y z =>
  rw [ho] at hop;simp only [cOp] at hop;split at hop;case h_2=>cases hop
  rename_i k e hu;split at hop;case h_2=>cases hop
  rename_i kn m' y' z' hk hm hy hz;cases hop;simp only [df] at hev;split at hev;case h_2=>cases hev
  rename_i vs hvs;rw [ae] at hev;obtain ⟨⟨v,h1⟩,hap,hev⟩:=hev;cases hev;obtain ⟨u1,u2,u3,rfl,hu1,hu2,hu3⟩:=evs3 hvs;refine yg hf hr hd hu hk (ce hf hm hu1) (ce hf hy hu2) (ce hf hz hu3) hap ?_;simp only [execOp,ho];rw [Sem.run_bind]; rfl
 | insert t m y z =>
  rw [ho] at hop;simp only [cOp] at hop;split at hop;case h_2=>cases hop
  rename_i k e hu;split at hop;case h_2=>cases hop
  rename_i kn m' y' z' hk hm hy hz;cases hop;simp only [df] at hev;split at hev;case h_2=>cases hev
  rename_i vs hvs;rw [ae] at hev;obtain ⟨⟨v,h1⟩,hap,hev⟩:=hev;cases hev;obtain ⟨u1,u2,u3,rfl,hu1,hu2,hu3⟩:=evs3 hvs;refine yg hf hr hd hu hk (ce hf hm hu1) (ce hf hy hu2) (ce hf hz hu3) hap ?_;simp only [execOp,ho];rw [Sem.run_bind]; rfl
 | mapEntry t m y =>
  rw [ho] at hop;simp only [cOp] at hop;split at hop;case h_2=>cases hop
  rename_i k e hu;split at hop;case h_2=>cases hop
  rename_i kn zv m' y' hk hzv hm hy;cases hop;simp only [df] at hev;split at hev;case h_2=>cases hev
  rename_i vs hvs;rw [ae] at hev;obtain ⟨⟨v,h1⟩,hap,hev⟩:=hev;cases hev;obtain ⟨u1,u2,rfl,hu1,hu2⟩:=evs2 hvs;refine mapentry_done hf hr hd hu hk hzv (ce hf hm hu1) (ce hf hy hu2) hap ?_;simp only [execOp,ho];rw [Sem.run_bind]; rfl
 | entryStore t m y z =>
  rw [ho] at hop;simp only [cOp] at hop;split at hop;case h_2=>cases hop
  rename_i m' y' z' hm hy hz;cases hop;simp only [df] at hev;split at hev;case h_2=>cases hev
  rename_i vs hvs;rw [ae] at hev;obtain ⟨⟨v,h1⟩,hap,hev⟩:=hev;cases hev;obtain ⟨u1,u2,u3,rfl,hu1,hu2,hu3⟩:=evs3 hvs;refine y7 (t:=t) hf hr hd (ce hf hm hu1) (ce hf hy hu2) (ce hf hz hu3) hap ?_;simp only [execOp,ho];rw [Sem.run_bind]; rfl
 | range t y =>
  rw [ho] at hop;simp only [cOp] at hop;split at hop;case h_2=>cases hop
  rename_i k e hu;rw [ae] at hop;obtain ⟨y',hy,rfl⟩:=hop;simp only [df] at hev;split at hev;case h_2=>cases hev
  rename_i vs hvs;rw [ae] at hev;obtain ⟨⟨v,h1⟩,hap,hev⟩:=hev;cases hev;simp only [evs] at hvs;split at hvs;case h_2=>cases hvs
  rename_i u us hu1 hus;cases hus; cases hvs;have hlen:h.size=μ.length:=hr.len.symm;have hyr:=ce hf hy hu1;unfold dj at hap;split at hap;case h_1=>simp_all
  case h_2 =>
   rename_i e1 e2;cases e2;cases hap;simp only [VRel] at hyr;rw [hlen];refine lw hf hr hd (.mapIter none 0 [] 0) (.mapIter none 0 #[] 0) ⟨w.heap.size,0,0,0⟩ rfl (w1:={ w with heap:=w.heap.push (.mapIter none 0 #[] 0) }) (v:=.pointer (some ⟨w.heap.size,0,none⟩)) ?_ rfl rfl rfl rfl ?_ ?_
   ·simp only [execOp,ho];refine nh ?_;rw [hyr];simp [Instr.range,run_underlying hu,newObj,Sem.run]
   ·exact ⟨⟨w.heap.size,0,0,0⟩,none,⟨by rw [aw (aj _)]; simp,rfl⟩,by simp,by simp [VRel]⟩
   ·simp only [VRel,ARel];exact ⟨_,rfl,some ⟨w.heap.size,0,0,0⟩,by rw [aw (aj _)]; simp,fun m hm=>by cases hm; rfl⟩
  case h_3 =>
   rename_i r e1 e2;cases e2;split at hap;case h_2=>cases hap
   rename_i es clock hgr;cases hap;obtain ⟨m,es',q1,q2,q3,q4⟩:=hr.obj _ _ hgr;have hyr':=hyr;simp only [VRel] at hyr;obtain ⟨bm,xo,r1,r2,r3⟩:=hyr;rw [q1] at r2; cases r2;have r3:=r3 m rfl;subst r3;rw [r1] at hyr';rw [hlen];refine lw hf hr hd (.mapIter (some r) clock [] clock) (.mapIter (some m.blk) clock #[] clock) ⟨w.heap.size,0,0,0⟩ rfl (w1:={ w with heap:=w.heap.push (.mapIter (some m.blk) clock #[] clock) }) (v:=.pointer (some ⟨w.heap.size,0,none⟩)) ?_ rfl rfl rfl rfl ?_ ?_
   ·simp only [execOp,ho];refine nh ?_;rw [r1];simp [Instr.range,run_underlying hu,MapKept.run_getObj_map q2,newObj,Sem.run]
   ·exact ⟨⟨w.heap.size,0,0,0⟩,some m.blk,⟨by rw [aw (aj _)]; simp,rfl⟩,by simp,hyr'.later (ij μ _)⟩
   ·simp only [VRel,ARel];exact ⟨_,rfl,some ⟨w.heap.size,0,0,0⟩,by rw [aw (aj _)]; simp,fun m hm=>by cases hm; rfl⟩
  all_goals simp_all
 | entry y =>
  rw [ho] at hop;simp only [cOp] at hop;rw [ae] at hop;obtain ⟨y',hy,rfl⟩:=hop;simp only [df] at hev;split at hev;case h_2=>cases hev
  rename_i vs hvs;rw [ae] at hev;obtain ⟨⟨v,h1⟩,hap,hev⟩:=hev;cases hev;simp only [evs] at hvs;split at hvs;case h_2=>cases hvs
  rename_i u us hu1 hus;cases hus; cases hvs;exact entry_done hf hr hd (ce hf hy hu1) hap (by simp only [execOp,ho]; rw [Sem.run_bind]; rfl)
 | _=>rw [ho] at hop; simp [cOp] at hop
end
end Go.Abs

namespace Go.Abs
structure Evol (h h':Heap):Prop where
 size:h.size≤h'.size
 base:h'.base=h.base
 wmin:h'.wmin≤h.wmin
 objs:∀ i,i < h.size→i < h'.wmin→h'.objs[i]? = h.objs[i]?
theorem Evol.refl (h:Heap):Evol h h:=⟨aj _,rfl,aj _,fun _ _ _=>rfl⟩
theorem Evol.trans {a b c:Heap} (h:Evol a b) (k:Evol b c):Evol a c :=
 ⟨cf h.size k.size,k.base.trans h.base,cf k.wmin h.wmin,fun i hi hw =>
  (k.objs i (fg hi h.size) hw).trans (h.objs i hi (fg hw k.wmin))⟩
theorem Evol.push (h:Heap) (o:AObj):Evol h (h.push o) :=
 ⟨by simp [Heap.push,Heap.size],rfl,aj _,fun i hi _=>by simp only [Heap.push]; rw [ag hi]⟩
theorem Evol.put (h:Heap) (i:Nat) (o:AObj):Evol h (h.put i o) :=
 ⟨by simp [Heap.put,Heap.size],rfl,cz _ _,fun j _ hw=>by simp only [Heap.put] at hw ⊢;rw [av];omega⟩
theorem Evol.puts (h:Heap):∀ (ps:List (Nat × AObj)) (xs:List AObj),Evol h (h.puts ps xs):=by
 have h1:∀ (xs:List AObj) (g:Heap),Evol g (xs.foldl Heap.push g):=fun xs=>by
  induction xs with
  | nil=>exact fun g=>Evol.refl g
  | cons x xs ih=>exact fun g=>(Evol.push g x).trans (ih _)
 have h2:∀ (ps:List (Nat × AObj)) (g:Heap),Evol g (ps.foldl (fun h p=>h.put p.1 p.2) g):=fun ps=>by
  induction ps with
  | nil=>exact fun g=>Evol.refl g
  | cons x xs ih=>exact fun g=>(Evol.put g x.1 x.2).trans (ih _)
 exact fun ps xs=>(h2 ps h).trans (h1 xs _)
def CallEvol (call:CallSem):Prop:=∀ g args h v h',call g args h=some (v,h')→Evol h h'
theorem ok1_evol {s:Slots} {h:Heap} {v:Option AVal} {x:Slot} {s':Slots} {h':Heap} (e:ok1 s h v=some (x,s',h')):Evol h h':=by unfold ok1 at e;rw [ae] at e;obtain ⟨u,_,e⟩:=e;cases e;exact Evol.refl _
theorem store_evol {s:Slots} {h:Heap} {ad:AAddr} {xs:List AVal} {s':Slots} {h':Heap} (e:storeAt s h ad xs=some (s',h')):Evol h h':=by
 unfold storeAt at e;split at e
 ·split at e
  ·split at e
   ·cases e; exact Evol.put _ _ _
   ·cases e
  ·cases e
 ·split at e
  ·split at e
   ·cases e; exact Evol.refl _
   ·cases e
  ·cases e
theorem append_evol {esz bytes:Nat} {h:Heap} {x y v:AVal} {h':Heap} (e:ex esz bytes h x y=some (v,h')):Evol h h':=by
 unfold ex at e;split at e
 ·split at e
  ·unfold aApp at e;split at e
   ·cases e; exact Evol.refl _
   ·split at e
    ·split at e
     ·cases e; exact Evol.push _ _
     ·split at e
      ·cases e; exact Evol.push _ _
      ·split at e
       ·cases e; exact (Evol.put _ _ _).trans (Evol.push _ _)
       ·cases e
    ·cases e
  ·cases e
 ·cases e
theorem ext_evol {k:ExtOp} {vs:List AVal} {h:Heap} {v:AVal} {h':Heap} (e:dj k vs h=some (v,h')):Evol h h':=by
 unfold dj at e;repeat' split at e
 all_goals first
  | (cases e; done)
  | (cases e; exact Evol.refl _)
  | (cases e; exact Evol.push _ _)
  | (cases e; exact Evol.put _ _ _)
  | (rw [ae] at e; obtain ⟨_,_,e⟩:=e; cases e; exact Evol.refl _)
theorem op_evol {call:CallSem} (hc:CallEvol call) {d:Nat} {o:AOp} {s:Slots} {h:Heap} {x:Slot} {s':Slots} {h':Heap} (e:df call d o s h=some (x,s',h')):Evol h h':=by
 cases o with
 | call f args =>
  simp only [df] at e;split at e
  ·rw [ae] at e;obtain ⟨⟨v,h1⟩,h2,e⟩:=e;cases e;exact hc _ _ _ _ _ h2
  ·split at e
   ·rw [ae] at e;obtain ⟨⟨v,h1⟩,h2,e⟩:=e;cases e;exact hc _ _ _ _ _ h2
   ·cases e
  ·cases e
 | ext k xs =>
  simp only [df] at e;split at e
  ·rw [ae] at e;obtain ⟨⟨v,h1⟩,h2,e⟩:=e;cases e;exact ext_evol h2
  ·cases e
 | callg g args =>
  simp only [df] at e;split at e
  ·rw [ae] at e;obtain ⟨⟨v,h1⟩,h2,e⟩:=e;cases e;exact hc _ _ _ _ _ h2
  ·cases e
 | append es b y z =>
  simp only [df] at e;split at e
  ·rw [ae] at e;obtain ⟨⟨v,h1⟩,h2,e⟩:=e;cases e;exact append_evol h2
  ·cases e
 | store n y z =>
  simp only [df] at e;split at e
  ·split at e
   ·rw [ae] at e;obtain ⟨⟨v,h1⟩,h2,e⟩:=e;cases e;exact store_evol h2
   ·cases e
  ·cases e
 | conv k y =>
  simp only [df] at e;split at e
  ·unfold n7 at e;repeat' split at e
   all_goals first
    | (cases e; done)
    | exact ok1_evol e
    | (cases e; exact Evol.push _ _)
    | (cases e; exact Evol.put _ _ _)
  ·cases e
 | _ =>
  simp only [df] at e;repeat' split at e
  all_goals first
   | (cases e; done)
   | exact ok1_evol e
   | (cases e; exact Evol.push _ _)
   | (cases e; exact Evol.refl _)
   | (rw [ae] at e; obtain ⟨_,_,e⟩:=e; cases e; exact Evol.refl _)
theorem me {call:CallSem} (hc:CallEvol call) {o:AOper} {s:Slots} {h:Heap} {s':Slots} {h':Heap} (e:fe call o s h=some (s',h')):Evol h h':=by
 have run:evRun call o s h=some (s',h')→Evol h h':=by
  intro e;unfold evRun at e;split at e
  ·rename_i x s1 h1 h2;cases e;exact op_evol hc h2
  ·cases e
 unfold fe at e;split at e
 ·exact run e
 ·split at e
  ·split at e
   ·exact run e
   ·cases e; exact Evol.refl _
  ·cases e; exact Evol.refl _
  ·cases e
theorem ops_evol {call:CallSem} (hc:CallEvol call):∀ {l:List AOper} {s:Slots} {h:Heap} {s':Slots} {h':Heap},evOps call l s h=some (s',h')→Evol h h'
 | [],_,_,_,_,e=>by simp only [evOps] at e; cases e; exact Evol.refl _
 | o :: l,s,h,s',h',e=>by
  simp only [evOps] at e;split at e
  ·rename_i s1 h1 h2;exact (me hc h2).trans (ops_evol hc e)
  ·cases e
theorem zap {call:CallSem}:∀ {l:List AOper} {s:Slots} {h:Heap} {s':Slots} {h':Heap},evQuiet call l s h=some (s',h')→h'=h
 | [],_,_,_,_,e=>by simp only [evQuiet] at e; cases e; rfl
 | o :: l,s,h,s',h',e=>by
  simp only [evQuiet] at e;split at e
  ·split at e
   ·exact zap e
   ·cases e
  ·cases e
theorem yk {call:CallSem} {V:List Nat}:∀ {l:List AOper} {s:Slots} {h:Heap} {s':Slots} {h':Heap},evQuietV call V l s h=some (s',h')→h'=h
 | [],_,_,_,_,e=>by simp only [evQuietV] at e; cases e; rfl
 | o :: l,s,h,s',h',e=>by
  simp only [evQuietV] at e;split at e
  ·split at e
   ·exact yk e
   ·cases e
  ·cases e
theorem evQ_evol {call:CallSem} {l:List AOper} {s:Slots} {h:Heap} {s':Slots} {h':Heap} (e:evQ call l s h=some (s',h')):h'=h:=by
 unfold evQ at e;split at e
 ·exact zap e
 ·split at e
  ·exact yk e
  ·cases e
theorem wz (lo hi:Nat) (os:List AObj):(killRange lo hi os).length=os.length:=by simp [killRange]
theorem lh (m:Nat):∀ (ds:List Did) (y:Nat) (os:List AObj),(hide m y ds os).length=os.length
 | [],_,_=>rfl
 | d :: r,y,os=>by
  simp only [hide];rw [lh m r];split
  ·rfl
  ·exact wz ..
theorem vm (m:Nat):∀ (ds:List Did) (y:Nat) (os:List AObj),allSeen m y ds=true→hide m y ds os=os
 | [],_,_,_=>rfl
 | d :: r,y,os,h=>by simp only [allSeen,a7] at h;simp only [hide];rw [if_pos h.1];exact vm m r _ _ h.2
theorem vq {call:CallSem} (hc:CallEvol call) {n0 m:Nat} {ds:List Did} {o:AOper} {s:Slots} {h:Heap} {y:Slot} {h':Heap} {d:Did} (e:lm call n0 m ds o s h=some (y,h',d)):Evol h h':=by
 have hno:CallEvol noCall:=fun _ _ _ _ _ e=>by simp [noCall] at e
 unfold lm at e;split at e
 ·cases e
 ·split at e
  ·split at e
   ·cases e
   ·rename_i s1 h1 he;have hev:=me hc he
    have hsz:h.size≤h1.size:=by have:=hev.size;simp only [Heap.size,lh] at this;exact this
    simp only at e;split at e
    ·rename_i hw;split at e
     ·rename_i hall;cases e;refine ⟨hsz,rfl,cz _ _,fun i hi hi'=>?_⟩;simp only at hi';have:=hev.objs i (by simp only [Heap.size,lh]; exact hi) (by omega);simp only [vm m ds 0 h.objs hall] at this;exact this
     ·cases e
    ·rename_i hw;split at e
     ·rename_i hall;cases e;refine ⟨hsz,rfl,aj _,fun i hi hi'=>?_⟩;have:=hev.objs i (by simp only [Heap.size,lh]; exact hi) (by omega);simp only [vm m ds 0 h.objs hall] at this;exact this
     ·split at e
      ·cases e;refine ⟨by simp [Heap.size],rfl,aj _,fun i hi _=>?_⟩;simp only;rw [ag hi]
      ·cases e
  ·split at e
   ·cases e
   ·rename_i s1 h1 he;have hev:=me hno he;simp only at e;split at e
    ·rename_i hsz0;split at e
     ·split at e
      ·split at e
       ·cases e;refine ⟨?_,rfl,cz _ _,fun i hi hi'=>hev.objs i hi (by simp only at hi'; omega)⟩;show h.size≤h1.size; omega
       ·cases e
      ·cases e
     ·split at e
      ·cases e; exact Evol.refl _
      ·cases e
    ·rename_i hsz1;split at e
     ·rename_i hsz;split at e
      ·split at e
       ·split at e
        ·rename_i hw;cases e;refine ⟨?_,rfl,aj _,fun i hi _=>hev.objs i hi (by rw [hw]; exact hi)⟩;show h.size≤h1.size; omega
        ·cases e;refine ⟨?_,rfl,cz _ _,fun i hi hi'=>hev.objs i hi (by simp only at hi'; omega)⟩;show h.size≤h1.size; omega
       ·cases e
      ·cases e
     ·cases e
theorem vt {call:CallSem} (hc:CallEvol call) {n0:Nat}:∀ {ops:List AOper} {ms:List Nat} {ds:List Did} {s:Slots} {h:Heap} {s':Slots} {h':Heap},i8 call n0 ms ops ds s h=some (s',h')→Evol h h'
 | [],_,_,_,_,_,_,e=>by simp only [i8] at e; cases e; exact Evol.refl _
 | o :: l,ms,ds,s,h,s',h',e=>by
  simp only [i8] at e;split at e
  ·rename_i y h1 d he;split at e
   ·exact (vq hc he).trans (vt hc e)
   ·cases e
  ·cases e
theorem segs_evol {call:CallSem} (hc:CallEvol call):∀ {l:List Seg} {s:Slots} {h:Heap} {s':Slots} {h':Heap},jq call l s h=some (s',h')→Evol h h'
 | [],_,_,_,_,e=>by simp only [jq] at e; cases e; exact Evol.refl _
 | g :: l,s,h,s',h',e=>by
  simp only [jq] at e;split at e
  ·rename_i s1 h1 h2;refine Evol.trans ?_ (segs_evol hc e);split at h2
   ·split at h2
    ·rw [evQ_evol h2]; exact Evol.refl _
    ·exact vt hc h2
   ·exact ops_evol hc h2
  ·cases e
theorem loop_evol {f:St→Option (AExit × St)} (hf:∀ st e st',f st=some (e,st')→Evol st.h st'.h):∀ (n:Nat) (st:St) (e:AExit) (st':St),loopN f n st=some (e,st')→Evol st.h st'.h
 | 0,_,_,_,h=>by simp [loopN] at h
 | n+1,st,e,st',h=>by
  simp only [loopN] at h;split at h
  ·rename_i st1 h1;exact (hf _ _ _ h1).trans (loop_evol hf n _ _ _ h)
  ·exact hf _ _ _ h
theorem nk {call:CallSem} (hc:CallEvol call) (n:Nat):∀ (c:ACode) (st:St) (e:AExit) (st':St),dm call n c st=some (e,st')→Evol st.h st'.h:=by
 intro c;induction c with
 | skip=>intro st e st' h; simp only [dm] at h; cases h; exact Evol.refl _
 | region gs =>
  intro st e st' h;simp only [dm] at h;rw [ae] at h;obtain ⟨⟨s1,h1⟩,h2,h⟩:=h;cases h;exact segs_evol hc h2
 | seq a b iha ihb =>
  intro st e st' h;simp only [dm] at h;split at h
  ·rename_i st1 h1;exact (iha _ _ _ h1).trans (ihb _ _ _ h)
  ·exact iha _ _ _ h
 | cond c t e iht ihe =>
  intro st e st' h;simp only [dm] at h;split at h
  ·exact iht _ _ _ h
  ·exact ihe _ _ _ h
  ·cases h
 | block id a ih =>
  intro st e st' h;simp only [dm] at h;split at h
  ·rename_i j st1 h1;split at h <;> cases h <;> exact ih _ _ _ h1
  ·exact ih _ _ _ h
 | loop a ih=>intro st e st' h; exact loop_evol ih n _ _ _ h
 | exit id=>intro st e st' h; simp only [dm] at h; cases h; exact Evol.refl _
 | ret=>intro st e st' h; simp only [dm] at h; cases h; exact Evol.refl _
 | live l a ih=>intro st e st' h; simp only [dm] at h; have h2:=ih _ _ _ h; exact h2
 | after a l ih =>
  intro st e st' h;simp only [dm] at h;split at h
  ·rename_i st1 h1;cases h;have h2:=ih _ _ _ h1;exact h2
  ·exact ih _ _ _ h
 | rangeFunc f g caps ps a b _ _ =>
  intro st e st' h;simp only [dm] at h;split at h
  ·rename_i fv sl _ _;split at h
   ·rename_i x h1 he
    have h2:Evol (st.h.push (.loop g .ready none sl)) h1:=by
     unfold callVal at he;split at he
     ·exact hc _ _ _ _ _ he
     ·cases he
    have h3:Evol h1 st'.h:=by
     unfold loopEnd at h;split at h
     ·split at h
      ·cases h
      ·cases h; exact Evol.put _ _ _
     ·cases h
    exact (Evol.push _ _).trans (h2.trans h3)
   ·cases h
  ·cases h
 | next d x=>intro st e st' h; simp [dm] at h
theorem w7 {α β:Type} {f:α→Option (List β)}:∀ {l:List α} {ys:List β},flatL f l=some ys→∀ y ∈ ys,∃ x ∈ l,∃ zs,f x=some zs∧y ∈ zs
 | [],ys,h,y,hy=>by simp only [flatL] at h; cases h; cases hy
 | x :: l,ys,h,y,hy=>by
  simp only [flatL] at h;split at h;case h_2=>cases h
  rename_i a b h1 h2;cases h;rcases bw.1 hy with hy | hy
  ·exact ⟨x,bg ..,a,h1,hy⟩
  ·obtain ⟨x',k1,zs,k2,k3⟩:=w7 h2 y hy;exact ⟨x',bj _ k1,zs,k2,k3⟩
theorem nextOuts_evol {d:Option Nat} {x:Opd} {st:St} {l:List (AExit × St)} (e:nextOuts d x st=some l):∀ y ∈ l,Evol st.h y.2.h:=by
 intro y hy;unfold nextOuts at e;split at e;case h_2=>cases e
 split at e;case isFalse=>cases e
 split at e
 ·cases e;rw [bq] at hy; subst hy;exact Evol.put _ _ _
 ·split at e;case h_2=>cases e
  split at e;case isFalse=>cases e
  split at e
  ·cases e;rw [bq] at hy; subst hy;exact Evol.put _ _ _
  ·cases e;rw [cq] at hy;obtain ⟨q,_,rfl⟩:=hy;exact Evol.put _ _ _
 ·cases e
theorem zaq {f:St→Option (List (AExit × St))} (hf:∀ st l,f st=some l→∀ y ∈ l,Evol st.h y.2.h):∀ (n:Nat) (st:St) (l:List (AExit × St)),loopO f n st=some l→∀ y ∈ l,Evol st.h y.2.h
 | 0,st,l,h=>by simp [loopO] at h
 | n+1,st,l,h=>by
  intro y hy;simp only [loopO] at h;split at h;case h_2=>cases h
  rename_i l1 h1;obtain ⟨x,hx,zs,hz,hyz⟩:=w7 h y hy;have k:=hf _ _ h1 x hx;split at hz
  ·exact k.trans (zaq hf n _ _ hz y hyz)
  ·cases hz;rw [bq] at hyz; subst hyz;exact k
theorem w8 {call:CallSem} (hc:CallEvol call) (n:Nat):∀ (c:ACode) (st:St) (l:List (AExit × St)),fm call n c st=some l→∀ y ∈ l,Evol st.h y.2.h:=by
 have base:∀ (c:ACode) (st:St) (l:List (AExit × St)),(dm call n c st).map (fun x=>[x])=some l→∀ y ∈ l,Evol st.h y.2.h:=by intro c st l e y hy;rw [ae] at e;obtain ⟨x,e,rfl⟩:=e;rw [bq] at hy; subst hy;exact nk hc n _ _ _ _ e
 intro c;induction c with
 | skip=>exact base _
 | region gs=>exact base _
 | exit id=>exact base _
 | ret=>exact base _
 | rangeFunc f g caps ps a b _ _=>exact base _
 | seq a b iha ihb =>
  intro st l e y hy;simp only [fm] at e;split at e;case h_2=>cases e
  rename_i l1 h1;obtain ⟨x,hx,zs,hz,hyz⟩:=w7 e y hy;have k:=iha _ _ h1 x hx;split at hz
  ·exact k.trans (ihb _ _ hz y hyz)
  ·cases hz;rw [bq] at hyz; subst hyz;exact k
 | cond c t e iht ihe =>
  intro st l h y hy;simp only [fm] at h;split at h
  ·exact iht _ _ h y hy
  ·exact ihe _ _ h y hy
  ·cases h
 | block id a ih =>
  intro st l e y hy;simp only [fm] at e;rw [ae] at e;obtain ⟨l1,h1,rfl⟩:=e;rw [cq] at hy;obtain ⟨x,hx,rfl⟩:=hy;have k:=ih _ _ h1 x hx;split
  ·split <;> exact k
  ·exact k
 | loop a ih=>intro st l e; exact zaq ih n _ _ e
 | live l a ih=>intro st ys e y hy; simp only [fm] at e; have h2:=ih _ _ e y hy; exact h2
 | after a l ih =>
  intro st ys e y hy;simp only [fm] at e;rw [ae] at e;obtain ⟨l1,h1,rfl⟩:=e;rw [cq] at hy;obtain ⟨x,hx,rfl⟩:=hy;have k:=ih _ _ h1 x hx;split
  ·have k2:Evol st.h x.2.h:=k;exact k2
  ·exact k
 | next d x=>intro st l e; exact nextOuts_evol e
theorem yl {h0 h:Heap} {v:AVal} (hb:h.base=h0.base) (hs:h0.size≤h.size) (ho:∀ i,i < h0.size→i < h.wmin→h.objs[i]? = h0.objs[i]?):Evol h0 (dk h0 v h).2:=by
 unfold dk;split
 ·exact ⟨hs,hb,cz _ _,fun i hi hw=>ho i hi (by simp only at hw; omega)⟩
 ·rename_i hw;split
  ·exact Evol.refl _
  ·simp only;split
   ·exact ⟨by simp [Heap.size],rfl,aj _,fun i hi _=>by simp only; rw [ag hi]⟩
   ·exact ⟨hs,hb,aj _,fun i hi _=>ho i hi (by omega)⟩
theorem allSame_mem {l:List (Option (AVal × Heap))} {r:AVal × Heap} (e:allSame l=some r):some r ∈ l:=by
 unfold allSame at e;split at e
 ·split at e
  ·cases e; exact bg ..
  ·cases e
 ·cases e
theorem rn {f:AFunc} {h:Heap} {x:AExit × St} {r:AVal × Heap} (hx:Evol { h with wmin:=h.size } x.2.h) (e:funcEnd f h x=some r):Evol h r.2:=by
 have key:∀ (st:St),Evol { h with wmin:=h.size } st.h→((resultsL st.s st.h f.results).map fun vs=>dk h (tupled vs) st.h)=some r→Evol h r.2:=by intro st h3 h2;rw [ae] at h2;obtain ⟨vs,_,h2⟩:=h2;have h4:=yl (h0:=h) (h:=st.h) (v:=tupled vs) h3.base h3.size (fun i hi hw=>h3.objs i hi hw);rw [h2] at h4;exact h4
 obtain ⟨x,st⟩:=x;cases x with
 | normal=>exact key st hx e
 | ret=>exact key st hx e
 | exit id=>simp [funcEnd] at e
theorem func_evol {call:CallSem} (hc:CallEvol call) {n:Nat} {f:AFunc} {args:List AVal} {h:Heap} {v:AVal} {h':Heap} (e:evFunc call n f args h=some (v,h')):Evol h h':=by
 unfold evFunc at e;split at e;case isFalse=>cases e
 split at e
 ·split at e;case h_2=>cases e
  rename_i l hl;have:=allSame_mem e;rw [cq] at this;obtain ⟨x,hx,he⟩:=this;exact rn (w8 hc n _ _ _ hl x hx) he
 ·split at e;case h_2=>cases e
  rename_i x hx;exact rn (nk hc n _ _ _ _ hx) e
theorem round_evol {call:CallSem} (hc:CallEvol call) {n g:Nat} {r:ARound} {args:List AVal} {h:Heap} {v:AVal} {h':Heap} (e:evRound call n g r args h=some (v,h')):Evol h h':=by
 unfold evRound at e;split at e
 ·split at e
  ·split at e
   ·split at e
    ·rename_i i _ aZ _ _ s _ _ st he
     have h1:Evol { h with wmin:=h.size } st.h:=by
      unfold my at he;split at he
      ·rename_i st0 h0;split at he
       ·split at he
        ·cases he; exact (nk hc n _ _ _ _ h0).trans (Evol.put _ _ _)
        ·cases he
       ·cases he
      ·cases he
     unfold roundOut at e;split at e
     ·rename_i x st1 h2;have h3:=h1.trans (nk hc n _ _ _ _ h2);split at e
      ·rename_i sl2 _;split at e
       ·injection e with e;have h4:=h3.trans (Evol.put st1.h i (.loop g (if x = .normal then .ready else .done) (if x = .normal then none else some x) sl2));have h5:=yl (h0:=h) (v:=.bool (decide (x = .normal))) h4.base h4.size fun i hi hw=>h4.objs i hi hw
        rw [e] at h5;exact h5
       ·cases e
      ·cases e
     ·cases e
    ·cases e
   ·cases e
  ·cases e
 ·cases e
theorem wrapC_evol {r:List AVal→Heap→Option (AVal × Heap)} (hr:∀ args h v h',r args h=some (v,h')→Evol h h') {c:Bool} {args:List AVal} {h:Heap} {v:AVal} {h':Heap} (e:wrapC c r args h=some (v,h')):Evol h h':=by
 cases c with
 | false=>exact hr _ _ _ _ e
 | true =>
  simp only [wrapC,evClosed,if_true] at e;split at e
  ·split at e
   ·split at e
    ·cases e; exact Evol.refl _
    ·cases e
   ·cases e
  ·cases e
theorem kw (T:Nat→Option AFunc):∀ n,CallEvol (e7 T n)
 | 0=>by intro g args h v h' e; simp [e7] at e
 | n+1=>by
  intro g args h v h' e;simp only [e7] at e;split at e
  ·split at e
   ·exact round_evol (kw T n) e
   ·rw [ae] at e;obtain ⟨_,_,e⟩:=e;cases e;exact Evol.puts _ _ _
   ·exact wrapC_evol (fun _ _ _ _ e=>func_evol (kw T n) e) e
  ·cases e
end Go.Abs

namespace Go.Abs
def F0 (ro:Option Nat):Fence:={ Fence.wide with round:=ro }
def Ends (E:Env) (μ:MM) (w:World) (v:AVal) (h':Heap) (e:Ending) (w':World):Prop :=
  ∃ v' μ',e = .returned v'∧Step (fun _=>False) h'.wmin μ w μ' w'∧VRel E μ' v v'∧Rel E μ' h' w'
structure CallOK (E:Env) (call:CallSem):Prop where
  fn:∀ (g:Nat) (args:List AVal) (h:Heap) (v:AVal) (h':Heap),call g args h=some (v,h')→∀ (f:FuncId),E.gid f=some g→∀ (μ:MM) (w:World) (args':Array Value),VRels E μ args args'.toList→Rel E μ h w →
    CallsIn (F0 none) 0 E.P f args' w (Ends E μ w v h')
  round:∀ (g i k:Nat) (args:List AVal) (h:Heap) (v:AVal) (h':Heap) (st:LoopSt) (p:Option AExit) (sl:List (Nat × AVal)),call g (.ptr (some (i,k)) :: args) h=some (v,h')→h.get i=some (.loop g st p sl) →
    ∀ (μ:MM) (w:World) (args':Array Value),VRels E μ args args'.toList→Rel E μ h w →
    ∃ (m:M) (r:Loop),μ[i]? = some (some m)∧w.heap[m.blk]? = some (.loop r)∧args'.size=r.params.size ∧
      RoundIn (F0 none) 0 E.P m.blk r.fn ((r.params.zip args').foldl (fun tmps (t,a)=>tmps.setIfInBounds t a) r.tmps) r.assign r.body w (Ends E μ w v h')
def GidOK (E:Env):Prop:=∀ f g,E.gid f=some g→∃ fn,E.P.funcs[f]? = some fn∧fn.name ≠ "runtime.NumGoroutine" ∧ fn.body.isSome=true
def markOf (r:Nat):Deferred:={ target:=.collected r,args:=#[] }
def At (E:Env) (lo nt:Nat) (μ0:MM) (w0:World) (ds:List Deferred) (s:Slots) (h:Heap) (a:Act) (w:World):Prop :=
  ∃ μ ν,Step (fun k=>lo≤k) h.wmin μ0 w0 μ w∧Rel E μ h w∧FRel E lo ν μ (sget s) a.tmps w∧a.tmps.size=nt∧a.defers=ν.ds.map markOf++ds∧lo≤w.heap.size
section
variable {E:Env} {lo nt:Nat} {μ0:MM} {w0:World} {ds:List Deferred} {s:Slots} {h:Heap} {a:Act} {w:World} {call:CallSem} {ro:Option Nat}
theorem np (a:Act) (dst:Option Tmp) (v:Value):(a.put dst v).tmps.size=a.tmps.size:=by cases dst <;> simp [Act.put]
theorem ll (a:Act) (dst:Option Tmp) (v:Value):(a.put dst v).defers=a.defers:=by cases dst <;> rfl
theorem At.undef (hat:At E lo nt μ0 w0 ds s h a w) {dst:Option Nat} (hd:∀ t,dst=some t→t < nt):At E lo nt μ0 w0 ds (a8 dst .undef s) h (a.put dst Go.undef) w:=by obtain ⟨μ,ν,k1,k2,k3,k4,k5,k6⟩:=hat;refine ⟨μ,ν,k1,k2,?_,by rw [np]; exact k4,by rw [ll]; exact k5,k6⟩;rw [iu];exact (k3.setUndef (fun x hx=>by rw [k4]; exact hd x hx)).congr fun t=>je _ _ _ _
theorem jo (hg:GidOK E) {f g:Nat} (hf:E.gid f=some g) (args:Array Value) (w:World):(callFunc f args).run E.P w = .ok (.enter f args) w:=by obtain ⟨fn,h1,h2,h3⟩:=hg f g hf;obtain ⟨c,hb⟩:=Option.isSome_iff_exists.1 h3;simp [callFunc,h1,h2,hb]
theorem run_sound (hc:CallOK E call) (hev0:CallEvol call) (hg:GidOK E) {ops:Array Oper} {loc:Bool} {o:Oper} {o':AOper} {s':Slots} {h':Heap} (hop:ky E nt ops loc o=some o') (hev:evRun call o' s h=some (s',h'))
    (hat:At E lo nt μ0 w0 ds s h a w) {next:Act→World→Prop} {Q:Exit→Act→World→Prop} (hn:∀ a' w',At E lo nt μ0 w0 ds s' h' a' w'→next a' w'):o.wpIn (F0 ro) 0 E.P a w next Q:=by
  unfold ky at hop;split at hop;case isFalse=>cases hop
  rename_i hh;simp only [a7,dt,fp] at hh;obtain ⟨hh1,hh2⟩:=hh;have hd:∀ t,o.dst=some t→t < nt:=fun t ht=>by rw [ht] at hh1; simpa using hh1
  have hloc:loc=true→isStore o.op=false→o.dst.isSome=true:=fun hl hst=>(hh2.resolve_right (by rw [hst]; simp)).resolve_left (by rw [hl]; simp)
  have ho1:o'.dst=o.dst∧o'.op=cOpS E loc o.op:=by
    split at hop
    · cases hop; exact ⟨rfl,rfl⟩
    · split at hop
      · cases hop; exact ⟨rfl,rfl⟩
      · cases hop
  have ho2:∃ ao,cOp E loc o.op=some ao∧o'.op=ao:=by
    cases hco:cOp E loc o.op with
    | some ao=>exact ⟨ao,rfl,by rw [ho1.2,cOpS,hco]⟩
    | none =>
      exfalso;unfold evRun at hev;rw [ho1.2,cOpS,hco] at hev;simp [df] at hev
  obtain ⟨ao,hao,e2⟩:=ho2;have e1:=ho1.1;unfold evRun at hev;rw [e1,e2] at hev;split at hev;case h_2=>cases hev
  rename_i x s1 h1 hop1;cases hev;have hat0:=hat;obtain ⟨μ,ν,k1,k2,k3,k4,k5,k6⟩:=hat;have hevol:=op_evol hev0 hop1;have hnd:∀ c,o.op ≠ .defer c:=fun c hc'=>by rw [hc'] at hao; simp [cOp] at hao
  refine ⟨fun _ _=>trivial,?_⟩;rw [Oper.semAt_eq _ _ _ hnd]
  have ends:∀ (v:AVal) (e:Ending) (w':World),Ends E μ w v h' e w'→x = .val v→s1=s→(match e with | .returned v=>next (a.put o.dst v) w' | .panicked chain=>Q (.panic chain) a w' | .outgrown=>LetsOut Q):=by
    rintro v e w' ⟨v',μ',rfl,j1,j2,j3⟩ hx hs;subst hx; subst hs;refine hn _ _ ⟨μ',ν,?_,j3,?_,by rw [np]; exact k4,by rw [ll]; exact k5,cf k6 j1.size⟩
    · exact k1.trans (j1.weaken (aj _) fun b hb _=>hb.elim) hevol.wmin
    · rw [iu]
      exact ((k3.step j1 fun b _ hb=>hb).setVal (fun y hy=>by rw [k4]; exact hd y hy) j2).congr fun t=>je _ _ _ _
  have callcase:∀ (g:Nat) (f:FuncId) (aZ:List AVal) (args':Array Value) (v:AVal),call g aZ h=some (v,h')→E.gid f=some g→VRels E μ aZ args'.toList →
      (execOp a.eval o).run E.P w = .ok (.enter f args') w→x = .val v→s1=s→o.uponIn (F0 ro) 0 E.P a next Q ((execOp a.eval o).run E.P w):=by
    intro g f aZ args' v hcall hgf hargs hrun hx hs;rw [hrun,Oper.uponIn_enter];refine ⟨fun hh=>by simp [F0,Fence.wide] at hh,?_⟩
    exact CallsIn.mono (F:=F0 ro) (n:=0) (hc.fn g aZ h v h' hcall f hgf μ w args' hargs k2) fun e w' he=>by have:=ends v e w' he hx hs;cases e <;> exact this
  have roundcase:∀ (g i:Nat) (aZ:List AVal) (args':Array Value) (v:AVal) (st:LoopSt) (p:Option AExit) (sl:List (Nat × AVal)),call g (.ptr (some (i,0)) :: aZ) h=some (v,h')→h.get i=some (.loop g st p sl)→VRels E μ aZ args'.toList →
      (∀ (m:M),μ[i]? = some (some m)→(execOp a.eval o).run E.P w=(Instr.yield m.blk args').run E.P w)→x = .val v→s1=s→o.uponIn (F0 ro) 0 E.P a next Q ((execOp a.eval o).run E.P w):=by
    intro g i aZ args' v st p sl hcall hg hargs hrun hx hs;obtain ⟨m,r,q1,q2,q3,q4⟩:=hc.round g i 0 aZ h v h' st p sl hcall hg μ w args' hargs k2;rw [hrun m q1,run_yield q2 q3,Oper.uponIn_round];refine ⟨fun hh=>by simp [F0,Fence.wide] at hh,?_⟩
    exact RoundIn.mono (F:=F0 ro) (n:=0) q4 fun e w' he=>by have:=ends v e w' he hx hs;cases e <;> exact this
  by_cases hcl:(∃ f aZ,ao = .call f aZ)∨(∃ g aZ,ao = .callg g aZ)
  · have hcop:∃ c,o.op = .call c∧cCall E c=some ao:=by
      cases ho:o.op with
      | call c=>exact ⟨c,rfl,by rw [ho] at hao; simpa only [cOp] using hao⟩
      | makeFunc fn x1 x2 =>
        rw [ho] at hao;exfalso;cases fn <;> simp only [cOp] at hao <;> (try (cases hao; done))
        rcases hcl with ⟨f,aZ,rfl⟩ | ⟨g,aZ,rfl⟩ <;> (split at hao <;> cases hao)
      | makeMap t hint =>
        rw [ho] at hao;exfalso
        rcases hcl with ⟨f,aZ,rfl⟩ | ⟨g,aZ,rfl⟩ <;>
          (cases hint with
           | none=>simp [cOp] at hao
           | some y =>
             cases y with
             | const v=>cases v <;> simp only [cOp] at hao <;> first | (cases hao; done) | (split at hao <;> cases hao)
             | _=>simp [cOp] at hao)
      | _ =>
        rw [ho] at hao;exfalso
        rcases hcl with ⟨f,aZ,rfl⟩ | ⟨g,aZ,rfl⟩ <;>
          (simp only [cOp,cBin,cConv,cEq] at hao
           repeat' split at hao
           all_goals first
             | (cases hao; done)
             | (rw [ae] at hao; obtain ⟨_,_,hao⟩:=hao; first | (cases hao; done) | (split at hao <;> cases hao)))
    obtain ⟨c,hcop,hcc⟩:=hcop;unfold cCall at hcc;split at hcc
    · rename_i f hcal
      split at hcc
      case h_2 =>
        exfalso;rw [ae] at hcc;obtain ⟨_,_,hcc⟩:=hcc;rcases hcl with ⟨f,aZ,rfl⟩ | ⟨g,aZ,rfl⟩ <;> cases hcc
      case h_3=>cases hcc
      rename_i g aZ hgf has;cases hcc;simp only [df] at hop1;split at hop1;case h_2=>cases hop1
      rename_i vs hvs;rw [ae] at hop1;obtain ⟨⟨v,h2⟩,hcall,hop1⟩:=hop1;cases hop1;have hargs:=ke k3 has hvs;refine callcase g f vs (c.args.map a.eval) v hcall hgf (by simpa using hargs) ?_ rfl rfl;have:=jo hg hgf (c.args.map a.eval) w;simp [execOp,hcop,resolve,hcal,Act.eval,Deferred.ofValue,invoke,this]
    · rename_i y hne hcal
      split at hcc;case h_2=>cases hcc
      rename_i y' aZ hy has;cases hcc;simp only [df] at hop1;split at hop1
      · rename_i g first caps vs hyv hvs
        rw [ae] at hop1;obtain ⟨⟨v,h2⟩,hcall,hop1⟩:=hop1;cases hop1;have hargs:=ke k3 has hvs;have hfv:=ce k3 hy hyv;simp only [VRel] at hfv;obtain ⟨fid,f',c',q1,q2,q3,q4⟩:=hfv;refine callcase g fid (first++vs++caps) (f'++c.args.map a.eval++c') v hcall q2 ?_ ?_ rfl rfl
        · simpa using (q3.append hargs).append q4
        · have:=jo hg q2 (f'++(c.args.map a.eval++c')) w
          simp [execOp,hcop,resolve,hcal,q1,Deferred.ofValue,invoke,this]
      · rename_i i vs hyv hvs
        split at hop1;case h_2=>cases hop1
        rename_i g st p sl hgi;rw [ae] at hop1;obtain ⟨⟨v,h2⟩,hcall,hop1⟩:=hop1;cases hop1;have hargs:=ke k3 has hvs;have hfv:=ce k3 hy hyv;simp only [VRel] at hfv;obtain ⟨l,xx,q1,q2,q3⟩:=hfv;refine roundcase g i vs (c.args.map a.eval) v st p sl hcall hgi (by simpa using hargs) (fun m hm=>?_) rfl rfl;rw [hm] at q2; cases q2;have:=q3 m rfl; subst this;simp [execOp,hcop,resolve,hcal,q1,Deferred.ofValue,invoke]
      · cases hop1
    · -- a built-in is no call
      exfalso
      rcases hcl with ⟨f,aZ,rfl⟩ | ⟨g,aZ,rfl⟩ <;>
        (repeat' split at hcc
         all_goals first
           | (cases hcc; done)
           | (rw [ae] at hcc; obtain ⟨_,_,hcc⟩:=hcc; cases hcc))
    · cases hcc
  · obtain ⟨v,w',μ',ν',j0,j1,j2,j3,j4⟩:=op_sound hao (fun f aZ e=>hcl (.inl ⟨f,aZ,e⟩)) (fun g aZ e=>hcl (.inr ⟨g,aZ,e⟩)) hop1 k3 k2 k6 (fun t ht=>by rw [k4]; exact hd t ht) hloc
    have hat':At E lo nt μ0 w0 ds (a8 o.dst x s1) h' (a.put o.dst v) w':=by refine ⟨μ',ν',k1.trans j2 hevol.wmin,j3,?_,by rw [np]; exact k4,by rw [ll,j0]; exact k5,cf k6 j2.size⟩;exact j4.congr fun t=>je _ _ _ _
    rcases j1 with j1 | ⟨rfl,j1⟩
    · rw [j1]; exact hn _ _ hat'
    · rw [j1]; exact hn _ _ hat'
theorem pm (hc:CallOK E call) (hev0:CallEvol call) (hg:GidOK E) {ops:Array Oper} {loc:Bool} {o:Oper} {o':AOper} {s':Slots} {h':Heap} (hop:ky E nt ops loc o=some o') (hev:fe call o' s h=some (s',h'))
    (hat:At E lo nt μ0 w0 ds s h a w) {next:Act→World→Prop} {Q:Exit→Act→World→Prop} (hn:∀ a' w',At E lo nt μ0 w0 ds s' h' a' w'→next a' w') :
    if Region.wanted o (yielded ops a.tmps) then o.wpIn (F0 ro) 0 E.P a w next Q else next (a.put o.dst Go.undef) w:=by
  have hop0:=hop;unfold ky at hop;split at hop;case isFalse=>cases hop
  rename_i hh;simp only [a7,dt,fp] at hh;have hd:∀ t,o.dst=some t→t < nt:=fun t ht=>by have:=hh.1; rw [ht] at this; simpa using this
  unfold fe at hev;split at hop
  · rename_i hg0
    cases hop;simp only at hev;have:Region.wanted o (yielded ops a.tmps)=true:=by simp [Region.wanted,hg0]
    rw [if_pos this];exact run_sound hc hev0 hg hop0 hev hat hn
  · rename_i j want hg0
    split at hop;case h_2=>cases hop
    rename_i d hdj;cases hop;simp only at hev;obtain ⟨μ,ν,k1,k2,k3,k4,k5,k6⟩:=hat;split at hev
    · rename_i b hb
      obtain ⟨v',hv,hr⟩:=k3.val d _ hb;simp only [VRel] at hr; subst hr;have hy:yielded ops a.tmps j=some b:=by simp [yielded,hdj,hv]
      have hw:Region.wanted o (yielded ops a.tmps)=(b == want):=by simp [Region.wanted,hg0,hy]
      split at hev
      · rename_i hbw
        rw [if_pos (by rw [hw]; simpa using hbw)];exact run_sound hc hev0 hg hop0 hev ⟨μ,ν,k1,k2,k3,k4,k5,k6⟩ hn
      · rename_i hbw
        cases hev;rw [if_neg (by rw [hw]; simpa using hbw)];exact hn _ _ (At.undef ⟨μ,ν,k1,k2,k3,k4,k5,k6⟩ hd)
    · rename_i hb
      cases hev;have hv:=k3.undef d hb;have hy:yielded ops a.tmps j=none:=by simp [yielded,hdj,hv,Go.undef]
      have hw:Region.wanted o (yielded ops a.tmps)=false:=by simp [Region.wanted,hg0,hy]
      rw [if_neg (by simp [hw])];exact hn _ _ (At.undef ⟨μ,ν,k1,k2,k3,k4,k5,k6⟩ hd)
    · cases hev
theorem wx (hc:CallOK E call) (hev0:CallEvol call) (hg:GidOK E) {ops:Array Oper} {locs:List Nat} {Q:Exit→Act→World→Prop}:∀ (l:List Oper) (i:Nat) (aZ:List AOper) (s:Slots) (h:Heap) (s':Slots) (h':Heap) (a:Act) (w:World),
    ops.toList.drop i=l→lq E nt ops locs i l=some aZ→evOps call aZ s h=some (s',h')→At E lo nt μ0 w0 ds s h a w→(∀ a' w',At E lo nt μ0 w0 ds s' h' a' w'→Q .normal a' w') →
    wpOpsIn (F0 ro) 0 E.P ops Q (List.range' i l.length) a w
  | [],i,aZ,s,h,s',h',a,w,_,hcs,hev,hat,hn=>by simp only [lq] at hcs; cases hcs;simp only [evOps] at hev; cases hev;exact hn _ _ hat
  | o :: l,i,aZ,s,h,s',h',a,w,hd,hcs,hev,hat,hn=>by
    simp only [lq] at hcs;split at hcs;case h_2=>cases hcs
    rename_i o' aZ' ho has;cases hcs;simp only [evOps] at hev;split at hev;case h_2=>cases hev
    rename_i s1 h1 he
    have hi:ops[i]? = some o:=by have:=congrArg (fun l=>l[0]?) hd;simpa using this
    have hd':ops.toList.drop (i+1)=l:=by have:=congrArg List.tail hd;simpa using this
    have ih:=fun a' w' hat'=>wx hc hev0 hg l (i+1) aZ' s1 h1 s' h' a' w' hd' has hev hat' hn
    simp only [bt,List.range'_succ,wpOpsIn,hi];have:=pm (ro:=ro) (Q:=Q) hc hev0 hg ho he hat ih;split
    · rename_i hw; rw [if_pos hw] at this; exact this
    · rename_i hw; rw [if_neg hw] at this; exact ⟨fun _ _=>trivial,this⟩
end
end Go.Abs

namespace Go.Abs
structure AgreeV (V:Nat→Prop) (S S2:Slots) (ts:List Nat):Prop where
 at_:∀ t ∈ ts,sget S t=sget S2 t
 var:∀ t cs,¬ V t→(sget S t=some (.var cs) ↔ sget S2 t=some (.var cs))
 no:∀ t ∈ ts,¬ V t∧∀ t' o,sget S t=some (.loc t' o)→¬ V t'
abbrev Agree (S S2:Slots) (ts:List Nat):Prop:=AgreeV (fun _=>False) S S2 ts
theorem Agree.of {S S2:Slots} {ts:List Nat} (h1:∀ t ∈ ts,sget S t=sget S2 t) (h2:∀ t cs,sget S t=some (.var cs) ↔ sget S2 t=some (.var cs)):Agree S S2 ts :=
 ⟨h1,fun t cs _=>h2 t cs,fun _ _=>⟨id,fun _ _ _=>id⟩⟩
section
variable {V:Nat→Prop} {S S2:Slots} {ts us:List Nat} {h:Heap}
theorem AgreeV.left (ha:AgreeV V S S2 (ts++us)):AgreeV V S S2 ts:=⟨fun t ht=>ha.at_ t (e9 _ ht),ha.var,fun t ht=>ha.no t (e9 _ ht)⟩
theorem AgreeV.right (ha:AgreeV V S S2 (ts++us)):AgreeV V S S2 us:=⟨fun t ht=>ha.at_ t (gc _ ht),ha.var,fun t ht=>ha.no t (gc _ ht)⟩
theorem AgreeV.sub (ha:AgreeV V S S2 ts) (h:∀ t ∈ us,t ∈ ts):AgreeV V S S2 us:=⟨fun t ht=>ha.at_ t (h t ht),ha.var,fun t ht=>ha.no t (h t ht)⟩
theorem ft {x:Opd} (ha:AgreeV V S S2 x.reads):x.ev S2=x.ev S:=by
 cases x with
 | const v=>rfl
 | tmp t=>simp only [Opd.ev,← ha.at_ t (by simp [Opd.reads])]
theorem oa:∀ {xs:List Opd},AgreeV V S S2 (readsL xs)→evs S2 xs=evs S xs
 | [],_=>rfl
 | x :: xs,ha=>by simp only [readsL] at ha;simp only [evs,ft ha.left,oa ha.right]
theorem sg {x:Option Opd} (ha:AgreeV V S S2 (readsO x)):optEv S2 x=optEv S x:=by
 cases x with
 | none=>rfl
 | some x=>simp only [readsO] at ha; simp only [optEv,ft ha]
theorem qj {x:Opd} (ha:AgreeV V S S2 x.reads):x.adr S2=x.adr S:=by
 cases x with
 | const v=>rfl
 | tmp t=>simp only [Opd.adr,← ha.at_ t (by simp [Opd.reads])]
theorem adr_no {x:Opd} (ha:AgreeV V S S2 x.reads) {t o:Nat} (h:x.adr S=some (.loc t o)):¬ V t:=by
 cases x with
 | const v=>cases h
 | tmp u =>
  obtain ⟨h1,h2⟩:=ha.no u (by simp [Opd.reads]);simp only [Opd.adr] at h;split at h
  ·cases h
  ·cases h; exact h1
  ·rename_i t' o' hs; cases h; exact h2 _ _ hs
  ·cases h
theorem si (ha:AgreeV V S S2 ts) (t:Nat) (hv:¬ V t):isVar S2 t=isVar S t:=by
 have key:∀ (A B:Slots),(∀ cs,sget A t=some (.var cs)→sget B t=some (.var cs))→isVar A t=true→isVar B t=true:=by
  intro A B hab h1;unfold isVar at h1;split at h1
  ·rename_i cs h2; unfold isVar; rw [hab cs h2]
  ·cases h1
 rw [mh];exact ⟨key S2 S fun cs=>(ha.var t cs hv).2,key S S2 fun cs=>(ha.var t cs hv).1⟩
theorem cellsAt_congr (ha:AgreeV V S S2 ts) (ad:AAddr) (hn:∀ t o,ad = .loc t o→¬ V t):cellsAt S2 h ad=cellsAt S h ad:=by
 cases ad with
 | glob i o=>rfl
 | loc t o =>
  have hv:=hn t o rfl;simp only [cellsAt];cases h1:sget S t with
  | none =>
   cases h2:sget S2 t with
   | none=>rfl
   | some y=>cases y <;> first | rfl | (rename_i cs; have:=(ha.var t cs hv).2 h2; rw [h1] at this; cases this)
  | some x =>
   cases x with
   | var cs=>rw [(ha.var t cs hv).1 h1]
   | _ =>
    cases h2:sget S2 t with
    | none=>rfl
    | some y=>cases y <;> first | rfl | (rename_i cs; have:=(ha.var t cs hv).2 h2; rw [h1] at this; cases this)
theorem loadAt_congr (ha:AgreeV V S S2 ts) (ad:AAddr) (n:Option Nat) (hn:∀ t o,ad = .loc t o→¬ V t):loadAt S2 h ad n=loadAt S h ad n:=by simp only [loadAt,cellsAt_congr ha ad hn]
theorem uk:∀ {ps:List (Nat × Nat × Opd)} {cs:List AVal},AgreeV V S S2 (readsP ps)→fill S2 cs ps=fill S cs ps
 | [],_,_=>rfl
 | (o,n,x) :: ps,cs,ha=>by
  simp only [readsP] at ha;simp only [fill,ft ha.left];split
  ·split
   ·exact uk ha.right
   ·rfl
  ·rfl
theorem aSlice_congr {k:SliceKind} {x:Opd} {lo hi mx:Option AVal} (ha:AgreeV V S S2 x.reads):aSlice k S2 h x lo hi mx=aSlice k S h x lo hi mx:=by cases k <;> simp only [aSlice,ft ha,qj ha]
def Same (S S2:Slots) (r r2:Option (Slot × Slots × Heap)):Prop :=
 ∀ x s' h',r=some (x,s',h')→s'=S∧r2=some (x,S2,h')∧∀ cs,x ≠ .var cs
theorem ia (v:Option AVal):Same S S2 (ok1 S h v) (ok1 S2 h v):=by intro x s' h' e;obtain ⟨u,rfl,rfl,rfl,rfl⟩:=gd e;exact ⟨rfl,rfl,fun cs e=>by cases e⟩
theorem dx (r2:Option (Slot × Slots × Heap)):Same S S2 none r2:=by intro x s' h' e; cases e
theorem pk (v:AVal) (h':Heap):Same S S2 (some (.val v,S,h')) (some (.val v,S2,h')):=by intro x s' h1 e; cases e; exact ⟨rfl,rfl,fun cs e=>by cases e⟩
theorem zag (t o:Nat):Same S S2 (some (.loc t o,S,h)) (some (.loc t o,S2,h)):=by intro x s' h1 e; cases e; exact ⟨rfl,rfl,fun cs e=>by cases e⟩
theorem sj {α:Type} (r:Option α) (f:α→AVal) (g:α→Heap):Same S S2 (r.map fun y=>(.val (f y),S,g y)) (r.map fun y=>(.val (f y),S2,g y)):=by
 cases r with
 | none=>exact dx _
 | some y=>exact pk _ _
theorem conv_same (k:ConvKind) (v:AVal):Same S S2 (n7 k v S h) (n7 k v S2 h):=by
 unfold n7;cases k <;> simp only
 ·split
  ·exact ia _
  ·exact dx _
 ·split
  ·exact ia _
  ·exact dx _
 ·split
  ·split
   ·exact pk _ _
   ·exact dx _
  ·exact dx _
 ·split
  ·split
   ·exact ia _
   ·exact dx _
  ·exact dx _
 ·split
  ·split
   ·split
    ·exact pk _ _
    ·exact dx _
   ·exact dx _
  ·exact dx _
theorem op_congr {call:CallSem} {d:Nat} {o:AOp} (hc:calm o=true) (ha:AgreeV V S S2 o.reads):Same S S2 (df call d o S h) (df call d o S2 h):=by
 cases o with
 | lalloc z=>cases hc
 | lbox x=>cases hc
 | store n a x=>cases hc
 | copy e d s=>cases hc
 | val x=>simp only [df,ft ha]; exact ia _
 | pick c a b =>
  simp only [df,ft ha.left.left,ft ha.left.right,ft ha.right];split
  ·exact ia _
  ·exact ia _
  ·exact dx _
 | alloc e z=>exact pk _ _
 | box x =>
  simp only [df,ft ha];split
  ·exact pk _ _
  ·exact dx _
 | build z ps=>simp only [df,uk ha]; exact ia _
 | mkslice e n z ps =>
  simp only [df,uk ha];split
  ·exact pk _ _
  ·exact dx _
 | load n a =>
  simp only [df,qj ha];split
  ·rename_i ad had;rw [loadAt_congr ha ad n fun t o e=>adr_no ha (by rw [had,e])]; exact ia _
  ·exact dx _
 | bin op x y =>
  simp only [df,ft ha.left,ft ha.right];split
  ·exact ia _
  ·exact dx _
 | un op x =>
  simp only [df,ft ha];split
  ·exact ia _
  ·exact dx _
 | conv k x =>
  simp only [df,ft ha];split
  ·exact conv_same _ _
  ·exact dx _
 | mkfunc g f c =>
  simp only [df,oa ha.left,oa ha.right];split
  ·exact ia _
  ·exact dx _
 | make e b z l c =>
  simp only [df,ft ha.left,ft ha.right];split
  ·split
   ·exact pk _ _
   ·exact dx _
  ·exact dx _
 | slice k x lo hi mx =>
  simp only [df,sg ha.right,sg ha.left.right,sg ha.left.left.right];split
  ·rw [aSlice_congr ha.left.left.left]; exact ia _
  ·exact dx _
 | faddr x off =>
  simp only [df,qj ha];split
  ·exact ia _
  ·rename_i had;rw [si ha _ (adr_no ha had)];split
   ·exact zag _ _
   ·exact dx _
  ·exact dx _
 | field x off n =>
  simp only [df,ft ha];split
  ·exact ia _
  ·exact dx _
 | iaddr e x i =>
  simp only [df,ft ha.left,ft ha.right];split
  ·exact ia _
  ·exact dx _
 | aaddr n e x i =>
  simp only [df,qj ha.left,ft ha.right];split
  ·exact ia _
  ·rename_i had _;rw [si ha.left _ (adr_no ha.left had)];split
   ·generalize inBounds n _=ib;cases ib with
    | none=>exact dx _
    | some j=>exact zag _ _
   ·exact dx _
  ·exact dx _
 | index x i =>
  simp only [df,ft ha.left,ft ha.right];split
  ·exact ia _
  ·exact dx _
 | aindex n e k x i =>
  simp only [df,ft ha.left,ft ha.right];split
  ·exact ia _
  ·exact dx _
 | extract x i =>
  simp only [df,ft ha];split
  ·exact ia _
  ·exact dx _
 | call f args =>
  simp only [df,ft ha.left,oa ha.right];split
  ·exact sj _ _ _
  ·split
   ·exact sj _ _ _
   ·exact dx _
  ·exact dx _
 | ext k xs =>
  simp only [df,oa ha];split
  ·exact sj _ _ _
  ·exact dx _
 | callg g args =>
  simp only [df,oa ha];split
  ·exact sj _ _ _
  ·exact dx _
 | len k x =>
  simp only [df,ft ha];split
  ·exact ia _
  ·exact dx _
 | append e b x y =>
  simp only [df,ft ha.left,ft ha.right];split
  ·exact sj _ _ _
  ·exact dx _
 | minmax m xs =>
  simp only [df,oa ha];split
  ·exact ia _
  ·exact dx _
 | nilcheck x =>
  simp only [df,ft ha,qj ha];split
  ·exact ia _
  ·split
   ·rename_i had;rw [si ha _ (adr_no ha had)];split
    ·exact zag _ _
    ·exact dx _
   ·exact dx _
 | eqnil k neg x y =>
  simp only [df,ft ha.left,ft ha.right];split
  ·exact ia _
  ·exact dx _
 | beq neg x y =>
  simp only [df,ft ha.left,ft ha.right];split
  ·exact ia _
  ·exact dx _
 | nextStr x=>exact dx _
theorem jj {call:CallSem} {o:AOper} (hc:calm o.op=true) (ha:AgreeV V S S2 o.reads) {s':Slots} {h':Heap} (e:fe call o S h=some (s',h')) :
  ∃ x,s'=a8 o.dst x S∧fe call o S2 h=some (a8 o.dst x S2,h')∧∀ cs,x ≠ .var cs:=by
 have run:evRun call o S h=some (s',h')→∃ x,s'=a8 o.dst x S∧evRun call o S2 h=some (a8 o.dst x S2,h')∧∀ cs,x ≠ .var cs:=by
  intro e;unfold evRun at e;split at e
  ·rename_i x s1 h1 h2;cases e;obtain ⟨e1,e2,e3⟩:=op_congr hc ha.left _ _ _ h2;subst e1;exact ⟨x,rfl,by unfold evRun; rw [e2],e3⟩
  ·cases e
 unfold fe at e ⊢;cases hg:o.guard with
 | none =>
  rw [hg] at e;exact run e
 | some tw =>
  obtain ⟨t,want⟩:=tw;rw [hg] at e;have ht:sget S2 t=sget S t:=(ha.at_ t (by simp [AOper.reads,hg])).symm;simp only at e ⊢;rw [ht];split at e
  ·split at e
   ·rename_i hb;obtain ⟨x,e1,e2,e3⟩:=run e;exact ⟨x,e1,by rw [if_pos hb]; exact e2,e3⟩
   ·rename_i hb;cases e;exact ⟨.undef,rfl,by rw [if_neg hb],fun cs e=>by cases e⟩
  ·cases e; exact ⟨.undef,rfl,rfl,fun cs e=>by cases e⟩
  ·cases e
end
end Go.Abs

namespace Go.Abs
section
variable {E:Env} {μ μ':MM}
mutual
theorem VRel.ids_lt:∀ {a:AVal} {v:Value},VRel E μ a v→∀ i ∈ a.ids,i < μ.length
 | .bool _,_,_,i,hi=>by simp [AVal.ids] at hi
 | .int _ _,_,_,i,hi=>by simp [AVal.ids] at hi
 | .str _,_,_,i,hi=>by simp [AVal.ids] at hi
 | .ptr none,_,_,i,hi=>by simp [AVal.ids] at hi
 | .ptr (some (j,o)),v,h,i,hi=>by simp only [AVal.ids,bq] at hi; subst hi;simp only [VRel] at h;obtain ⟨_,_,x,hx,_⟩:=h;exact ah hx
 | .slice none _ _,_,_,i,hi=>by simp [AVal.ids] at hi
 | .slice (some (j,o)) n c,v,h,i,hi=>by simp only [AVal.ids,bq] at hi; subst hi;simp only [VRel] at h;obtain ⟨_,_,_,hl,_⟩:=h;exact hl.1
 | .map none,_,_,i,hi=>by simp [AVal.ids] at hi
 | .map (some j),v,h,i,hi=>by simp only [AVal.ids,bq] at hi; subst hi;simp only [VRel] at h;obtain ⟨_,x,_,hx,_⟩:=h;exact ah hx
 | .yield j,v,h,i,hi=>by simp only [AVal.ids,bq] at hi; subst hi;simp only [VRel] at h;obtain ⟨_,x,_,hx,_⟩:=h;exact ah hx
 | .func g f c,v,h,i,hi=>by
  simp only [VRel] at h;obtain ⟨_,f',c',_,_,h1,h2⟩:=h;simp only [AVal.ids,bw] at hi;rcases hi with hi | hi
  ·exact VRels.ids_lt h1 i hi
  ·exact VRels.ids_lt h2 i hi
 | .nilFunc,_,_,i,hi=>by simp [AVal.ids] at hi
 | .iface _ _,_,h,_,_=>by simp only [VRel] at h
 | .nilIface,_,_,i,hi=>by simp [AVal.ids] at hi
 | .agg cs,v,h,i,hi=>by simp only [VRel] at h;obtain ⟨_,_,h1,_⟩:=h;exact VRels.ids_lt h1 i (by simpa [AVal.ids] using hi)
 | .tuple vs,v,h,i,hi=>by simp only [VRel] at h;obtain ⟨_,_,h1⟩:=h;exact VRels.ids_lt h1 i (by simpa [AVal.ids] using hi)
theorem VRels.ids_lt:∀ {aZ:List AVal} {l:List Value},VRels E μ aZ l→∀ i ∈ AVal.idsL aZ,i < μ.length
 | [],_,_,i,hi=>by simp [AVal.idsL] at hi
 | a :: aZ,l,h,i,hi=>by
  simp only [VRels] at h;obtain ⟨_,_,_,h1,h2⟩:=h;simp only [AVal.idsL,bw] at hi;rcases hi with hi | hi
  ·exact VRel.ids_lt h1 i hi
  ·exact VRels.ids_lt h2 i hi
end
mutual
theorem jx:∀ {a:AVal} {v:Value},(∀ i ∈ a.ids,i < μ.length→μ'[i]? = μ[i]?)→VRel E μ a v→VRel E μ' a v
 | .bool _,_,_,h=>by simpa only [VRel] using h
 | .int _ _,_,_,h=>by simpa only [VRel] using h
 | .str _,_,_,h=>by simpa only [VRel] using h
 | .ptr none,_,_,h=>by simpa only [VRel] using h
 | .ptr (some (j,o)),v,hi,h=>by have h3:=hi j (by simp [AVal.ids]);simp only [VRel,ARel] at h ⊢;obtain ⟨a,e,x,hx,hm⟩:=h;exact ⟨a,e,x,(h3 (ah hx)).trans hx,hm⟩
 | .slice none _ _,_,_,h=>by simpa only [VRel] using h
 | .slice (some (j,o)) n c,v,hi,h=>by have h3:=hi j (by simp [AVal.ids]);simp only [VRel,ARel] at h ⊢;obtain ⟨a,cap,e,h1,h2⟩:=h;have h4:=h3 h1.1;rw [h4];refine ⟨a,cap,e,⟨?_,h1.2⟩,h2⟩;rw [ai h1.1] at h4;exact ah h4
 | .map none,_,_,h=>by simpa only [VRel] using h
 | .map (some j),v,hi,h=>by have h3:=hi j (by simp [AVal.ids]);simp only [VRel] at h ⊢;obtain ⟨b,x,e,hx,hm⟩:=h;exact ⟨b,x,e,(h3 (ah hx)).trans hx,hm⟩
 | .yield j,v,hi,h=>by have h3:=hi j (by simp [AVal.ids]);simp only [VRel] at h ⊢;obtain ⟨b,x,e,hx,hm⟩:=h;exact ⟨b,x,e,(h3 (ah hx)).trans hx,hm⟩
 | .func g f c,v,hi,h=>by simp only [VRel] at h ⊢;obtain ⟨fid,f',c',e,hg,h1,h2⟩:=h;exact ⟨fid,f',c',e,hg,qo (fun i hi'=>hi i (by simp [AVal.ids,hi'])) h1,qo (fun i hi'=>hi i (by simp [AVal.ids,hi'])) h2⟩
 | .nilFunc,_,_,h=>by simpa only [VRel] using h
 | .iface _ _,_,_,h=>by simp only [VRel] at h
 | .nilIface,_,_,h=>by simpa only [VRel] using h
 | .agg cs,v,hi,h=>by simp only [VRel] at h ⊢;obtain ⟨cs',e,h1,h2⟩:=h;exact ⟨cs',e,qo (fun i hi'=>hi i (by simp [AVal.ids,hi'])) h1,h2⟩
 | .tuple vs,v,hi,h=>by simp only [VRel] at h ⊢;obtain ⟨cs',e,h1⟩:=h;exact ⟨cs',e,qo (fun i hi'=>hi i (by simp [AVal.ids,hi'])) h1⟩
theorem qo:∀ {aZ:List AVal} {l:List Value},(∀ i ∈ AVal.idsL aZ,i < μ.length→μ'[i]? = μ[i]?)→VRels E μ aZ l→VRels E μ' aZ l
 | [],_,_,h=>by simpa only [VRels] using h
 | a :: aZ,l,hi,h=>by simp only [VRels] at h ⊢;obtain ⟨v,r,e,h1,h2⟩:=h;exact ⟨v,r,e,jx (fun i hi'=>hi i (by simp [AVal.idsL,hi'])) h1,qo (fun i hi'=>hi i (by simp [AVal.idsL,hi'])) h2⟩
end
end
section
variable {E:Env} {μ μ':MM} {n:Nat}
mutual
theorem w9 (hm:∀ i,i < n→μ'[i]? = μ[i]?):∀ {a:AVal} {v:Value},a.under n=true→VRel E μ' a v→VRel E μ a v
 | .bool b,v,_,h=>by simpa only [VRel] using h
 | .int k m,v,_,h=>by simpa only [VRel] using h
 | .str s,v,_,h=>by simpa only [VRel] using h
 | .ptr none,v,_,h=>by simpa only [VRel] using h
 | .ptr (some (i,o)),v,hu,h=>by simp only [AVal.under,decide_eq_true_eq] at hu;simp only [VRel,ARel] at h ⊢;rw [hm i hu] at h; exact h
 | .slice none m c,v,_,h=>by simpa only [VRel] using h
 | .slice (some (i,o)) m c,v,hu,h=>by
  simp only [AVal.under,decide_eq_true_eq] at hu;simp only [VRel,ARel] at h ⊢;rw [hm i hu] at h;obtain ⟨a,cap,e,h1,h2⟩:=h;refine ⟨a,cap,e,⟨?_,h1.2⟩,h2⟩;have h3:=hm i hu;rcases bi i μ.length with h4 | h4
  ·exact h4
  ·rw [bv h4,ai h1.1] at h3; cases h3
 | .map none,v,_,h=>by simpa only [VRel] using h
 | .map (some i),v,hu,h=>by simp only [AVal.under,decide_eq_true_eq] at hu;simp only [VRel] at h ⊢;rw [hm i hu] at h; exact h
 | .yield i,v,hu,h=>by simp only [AVal.under,decide_eq_true_eq] at hu;simp only [VRel] at h ⊢;rw [hm i hu] at h; exact h
 | .func g f c,v,hu,h=>by simp only [AVal.under,a7] at hu;simp only [VRel] at h ⊢;obtain ⟨fid,f',c',e,hg,h1,h2⟩:=h;exact ⟨fid,f',c',e,hg,oe hm hu.1 h1,oe hm hu.2 h2⟩
 | .nilFunc,v,_,h=>by simpa only [VRel] using h
 | .iface _ _,v,_,h=>by simp only [VRel] at h
 | .nilIface,v,_,h=>by simpa only [VRel] using h
 | .agg cs,v,hu,h=>by simp only [AVal.under] at hu;simp only [VRel] at h ⊢;obtain ⟨cs',e,h1,h2⟩:=h;exact ⟨cs',e,oe hm hu h1,h2⟩
 | .tuple vs,v,hu,h=>by simp only [AVal.under] at hu;simp only [VRel] at h ⊢;obtain ⟨cs',e,h1⟩:=h;exact ⟨cs',e,oe hm hu h1⟩
theorem oe (hm:∀ i,i < n→μ'[i]? = μ[i]?):∀ {aZ:List AVal} {l:List Value},AVal.unders n aZ=true→VRels E μ' aZ l→VRels E μ aZ l
 | [],l,_,h=>by simpa only [VRels] using h
 | a :: aZ,l,hu,h=>by simp only [AVal.unders,a7] at hu;simp only [VRels] at h ⊢;obtain ⟨v,r,e,h1,h2⟩:=h;exact ⟨v,r,e,w9 hm hu.1 h1,oe hm hu.2 h2⟩
end
theorem isOne_ren (f:Nat→Nat) (a:AVal):(a.ren f).isOne=a.isOne:=by
 cases a with
 | ptr p=>cases p <;> simp [AVal.ren,AVal.isOne]
 | slice p m c=>cases p <;> simp [AVal.ren,AVal.isOne]
 | map p=>cases p <;> simp [AVal.ren,AVal.isOne]
 | _=>simp [AVal.ren,AVal.isOne]
mutual
theorem pz (f:Nat→Nat):∀ {a:AVal} {v:Value},(∀ i ∈ a.ids,i < μ.length→μ'[f i]? = μ[i]?)→VRel E μ a v→VRel E μ' (a.ren f) v
 | .bool b,v,_,h=>by simpa only [AVal.ren,VRel] using h
 | .int k m,v,_,h=>by simpa only [AVal.ren,VRel] using h
 | .str s,v,_,h=>by simpa only [AVal.ren,VRel] using h
 | .ptr none,v,_,h=>by simpa only [AVal.ren,VRel] using h
 | .ptr (some (i,o)),v,hi,h=>by have h3:=hi i (by simp [AVal.ids]);simp only [AVal.ren,VRel,ARel] at h ⊢;obtain ⟨a,e,x,hx,hm⟩:=h;exact ⟨a,e,x,(h3 (ah hx)).trans hx,hm⟩
 | .slice none m c,v,_,h=>by simpa only [AVal.ren,VRel] using h
 | .slice (some (i,o)) m c,v,hi,h=>by have h3:=hi i (by simp [AVal.ids]);simp only [AVal.ren,VRel,ARel] at h ⊢;obtain ⟨a,cap,e,h1,h2⟩:=h;have h4:=h3 h1.1;rw [h4];refine ⟨a,cap,e,⟨?_,h1.2⟩,h2⟩;rw [ai h1.1] at h4;exact ah h4
 | .map none,v,_,h=>by simpa only [AVal.ren,VRel] using h
 | .map (some i),v,hi,h=>by have h3:=hi i (by simp [AVal.ids]);simp only [AVal.ren,VRel] at h ⊢;obtain ⟨b,x,e,hx,hm⟩:=h;exact ⟨b,x,e,(h3 (ah hx)).trans hx,hm⟩
 | .yield i,v,hi,h=>by have h3:=hi i (by simp [AVal.ids]);simp only [AVal.ren,VRel] at h ⊢;obtain ⟨b,x,e,hx,hm⟩:=h;exact ⟨b,x,e,(h3 (ah hx)).trans hx,hm⟩
 | .func g a c,v,hi,h=>by simp only [AVal.ren,VRel] at h ⊢;obtain ⟨fid,f',c',e,hg,h1,h2⟩:=h;exact ⟨fid,f',c',e,hg,tf f (fun i hi'=>hi i (by simp [AVal.ids,hi'])) h1,tf f (fun i hi'=>hi i (by simp [AVal.ids,hi'])) h2⟩
 | .nilFunc,v,_,h=>by simpa only [AVal.ren,VRel] using h
 | .iface _ _,v,_,h=>by simp only [VRel] at h
 | .nilIface,v,_,h=>by simpa only [AVal.ren,VRel] using h
 | .agg cs,v,hi,h=>by simp only [AVal.ren,VRel] at h ⊢;obtain ⟨cs',e,h1,h2⟩:=h;exact ⟨cs',e,tf f (fun i hi'=>hi i (by simp [AVal.ids,hi'])) h1,rens_one f h2⟩
 | .tuple vs,v,hi,h=>by simp only [AVal.ren,VRel] at h ⊢;obtain ⟨cs',e,h1⟩:=h;exact ⟨cs',e,tf f (fun i hi'=>hi i (by simp [AVal.ids,hi'])) h1⟩
theorem tf (f:Nat→Nat):∀ {aZ:List AVal} {l:List Value},(∀ i ∈ AVal.idsL aZ,i < μ.length→μ'[f i]? = μ[i]?)→VRels E μ aZ l→VRels E μ' (AVal.renL f aZ) l
 | [],l,_,h=>by simpa only [AVal.renL,VRels] using h
 | a :: aZ,l,hi,h=>by simp only [AVal.renL,VRels] at h ⊢;obtain ⟨v,r,e,h1,h2⟩:=h;exact ⟨v,r,e,pz f (fun i hi'=>hi i (by simp [AVal.idsL,hi'])) h1,tf f (fun i hi'=>hi i (by simp [AVal.idsL,hi'])) h2⟩
theorem rens_one (f:Nat→Nat):∀ {aZ:List AVal},(∀ x ∈ aZ,x.isOne=true)→∀ x ∈ AVal.renL f aZ,x.isOne=true
 | [],_=>by simp [AVal.renL]
 | a :: aZ,h=>by
  intro x hx;simp only [AVal.renL,dy] at hx;rcases hx with rfl | hx
  ·rw [isOne_ren]; exact h a (bg ..)
  ·exact rens_one f (fun y hy=>h y (bj _ hy)) x hx
end
theorem renL_get (f:Nat→Nat):∀ (aZ:List AVal) (k:Nat),(AVal.renL f aZ)[k]? = (aZ[k]?).map (AVal.ren f)
 | [],k=>by simp [AVal.renL]
 | a :: aZ,0=>by simp [AVal.renL]
 | a :: aZ,k+1=>by simpa [AVal.renL] using renL_get f aZ k
theorem ym (f:Nat→Nat):∀ (aZ:List AVal),(AVal.renL f aZ).length=aZ.length
 | []=>rfl
 | a :: aZ=>by simp [AVal.renL,ym f aZ]
theorem ny:∀ {aZ:List AVal} {k:Nat} {a:AVal} {i:Nat},aZ[k]? = some a→i ∈ a.ids→i ∈ AVal.idsL aZ
 | [],k,a,i,h,_=>by simp at h
 | x :: aZ,0,a,i,h,hi=>by simp at h; subst h; simp [AVal.idsL,hi]
 | x :: aZ,k+1,a,i,h,hi=>by simp at h;simp [AVal.idsL,ny h hi]
end
end Go.Abs
