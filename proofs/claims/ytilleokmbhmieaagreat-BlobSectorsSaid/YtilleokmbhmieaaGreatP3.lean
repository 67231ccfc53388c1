/-
  Texts joined.
-/
import Derived.Test.YtilleokmbhmieaaGreatP0
import Derived.Test.YtilleokmbhmieaaGreatP2
import Derived.Laws.IdiomStrings
import Derived.Laws.BytesArg
import Derived.Lib.AppendZerosOnto
import Derived.MapKept
import Derived.DeepKeys
set_option linter.unusedVariables false
set_option linter.unusedSimpArgs false
set_option maxRecDepth 100000
namespace Go.Abs
section
variable {E:Env} {lo:Nat} {ν:Fr} {μ:MM} {s:Slots} {h:Heap} {a:Act} {w:World}
theorem rep_get {α:Type} (l:List α) (k:Nat) (hk:l.length=k) (h0:0 < k):∀ (n i:Nat),i < n*k→((List.replicate n l).flatten)[i]? = l[i % k]?
 | 0,i,h=>by omega
 | n+1,i,h=>by
  rw [List.replicate_succ,List.flatten_cons]
  by_cases hi:i < k
  ·rw [ag (by omega),Nat.mod_eq_of_lt hi]
  ·rw [au (by omega),hk,rep_get l k hk h0 n (i - k) (by rw [dr] at h; omega)]
   congr 1
   rw [Nat.mod_eq_sub_mod (a:=i) (by omega)]
theorem rep_length {α:Type} (l:List α) (k:Nat) (hk:l.length=k):∀ n,((List.replicate n l).flatten).length=n*k
 | 0=>by simp
 | n+1=>by rw [List.replicate_succ,List.flatten_cons,ap,hk,rep_length l k hk n,dr]; omega
theorem rep_rel {z:List AVal} {zero:Array Value} {k n:Nat} (hz:VRels E μ z zero.toList) (h1:∀ x ∈ z,x.isOne=true) (hk:z.length=k) (h0:0 < k) :
  VRels E μ (rep n z) ((Array.range (n*k)).map fun i=>zero[i % zero.size]!).toList∧(∀ x ∈ rep n z,x.isOne=true):=by
 have hl:=hz.length
 simp at hl
 constructor
 ·apply VRels.of
  ·rw [rep,rep_length z k hk]; simp
  ·intro i x hx
   have hi:i < n*k:=by
    have:=ah hx
    rw [rep,rep_length z k hk] at this; exact this
   rw [rep,rep_get z k hk h0 n i hi] at hx
   obtain ⟨v,hv,hr⟩:=hz.get hx
   refine ⟨v,?_,hr⟩
   have hm:i % zero.size < zero.size:=Nat.mod_lt _ (by omega)
   have e:zero.size=k:=by omega
   simp [hi]
   rw [e] at hm ⊢
   rw [jf] at hv
   rw [getElem!_pos zero _ (by omega)]
   rw [jc (by omega)] at hv
   simpa using hv
 ·intro x hx
  unfold rep at hx
  rw [List.mem_flatten] at hx
  obtain ⟨l,hl1,hl2⟩:=hx
  rw [List.mem_replicate] at hl1
  rw [hl1.2] at hl2
  exact h1 x hl2
theorem bytesOf_rel:∀ {cs:List AVal} {t:List UInt8} {l:List Value},bytesOf cs=some t→VRels E μ cs l→∃ ns:List Int,l=ns.map (Value.int .u8)∧t=ns.map fun n=>UInt8.ofNat n.toNat
 | [],t,l,h,hl=>by
  simp only [bytesOf] at h; cases h
  simp only [VRels] at hl; subst hl
  exact ⟨[],rfl,rfl⟩
 | c :: cs,t,l,h,hl=>by
  simp only [VRels] at hl
  obtain ⟨v,r,rfl,hv,hr⟩:=hl
  unfold bytesOf at h
  split at h
  ·rename_i h0; cases h0
  ·rename_i n r' h0
   cases h0
   rw [ae] at h
   obtain ⟨t',ht,rfl⟩:=h
   simp only [VRel] at hv; subst hv
   obtain ⟨ns,e1,e2⟩:=bytesOf_rel ht hr
   exact ⟨n :: ns,by simp [e1],by simp [e2]⟩
  ·cases h
theorem foldl_push:∀ (ns:List Int) (r:ByteArray),ns.foldl (fun r n=>r.push (UInt8.ofNat n.toNat)) r=⟨(r.data.toList++ns.map fun n=>UInt8.ofNat n.toNat).toArray⟩
 | [],r=>by simp
 | n :: ns,r=>by
  rw [iy,foldl_push ns]
  simp
theorem done_store (hf:FRel E lo ν μ (sget s) a.tmps w) (hr:Rel E μ h w) {dst:Option Tmp} {r:Result Next} (hd:∀ x,dst=some x→x < a.tmps.size) {x:Operand} {y:Opd} {ad:AAddr} {xs:List AVal} {l:List Value} {s':Slots} {h':Heap}
  (hc:cOpd E x=some y) (hy:y.adr s=some ad) (hxs:VRels E μ xs l) (h1:∀ v ∈ xs,v.isOne=true) (hst:storeAt s h ad xs=some (s',h'))
  (hrun:∀ adr,a.eval x = .pointer (some adr)→r=((storeCells adr l).run E.P w).andThen fun _ w'=>.ok .skip w') :
  OpDone E lo ν.ds μ w a dst r .undef s' h':=by
 have hlen:=hxs.length
 have hone:=ki hxs h1
 cases ad with
 | glob i o =>
  simp only [storeAt] at hst
  split at hst
  ·rename_i esz cs hg
   split at hst
   ·rename_i hh
    cases hst
    obtain ⟨hb,hl⟩:=hh
    obtain ⟨m,c,e,fr,k1,k2,k3,k4,k5,k6,k7⟩:=hr.obj i _ hg
    obtain ⟨adr,k8,x',k9,k10⟩:=adr_glob hf hc hy
    rw [k1] at k9; cases k9
    have:=k10 m rfl; subst this
    have hrs:=ig (P:=E.P) (b:=m.blk) (e:=e) (fr:=fr) (a:=⟨m.blk,m.base+o,none⟩) rfl rfl l 0 c w k3 (by simp; omega) (by rw [k4]; exact (k7 hb).lt) hone
    have hsp:=k6.splice hxs h1 hl (by omega)
    refine ⟨Go.undef,_,μ,ν,rfl,.inr ⟨rfl,by rw [hrun _ k8,hrs]; rfl⟩,Step.put k1 (ed _ _) _,hr.put hb k1 ?_,?_⟩
    ·exact ⟨m,_,e,fr,k1,k2,ex (hr.lt i m k1),by rw [gv]; exact k4,by rw [jh _ _ _ hl]; exact k5,hsp,k7⟩
    ·rw [fz]
     refine FRel.setUndef ?_ hd
     exact hf.keep (Later.refl _) (fun t cs' hv=>bf (hf.sepm t cs' i m hv k1)) (fun t cs' j m' _ hj hm=>absurd (ah hm) (by omega)) fun q hq=>⟨bf ((hf.sepd q hq).1 i m k1),fun j m' hj hm=>absurd (ah hm) (by omega)⟩
   ·cases hst
  ·cases hst
 | loc t o =>
  simp only [storeAt] at hst
  split at hst
  ·rename_i cs hg
   split at hst
   ·rename_i hl
    cases hst
    obtain ⟨_,k2,c,e,fr,k3,k4,k5,k6⟩:=hf.var t _ hg
    have k8:=adr_loc hf hc hy hg
    have hrs:=ig (P:=E.P) (b:=ν t) (e:=e) (fr:=fr) (a:=⟨ν t,o,none⟩) rfl rfl l 0 c w k3 (by simp; omega) k6.lt hone
    have hsp:=k5.splice hxs h1 hl (by omega)
    have hsz:=gv l c (0+o)
    simp only [c6] at hsp hsz
    refine ⟨Go.undef,_,μ,ν,rfl,.inr ⟨rfl,by rw [hrun _ k8,hrs]; rfl⟩,?_,hr.keep (by simp [withBlock]) (fun i m hm=>bf (fun e=>hf.sepm t _ i m hg hm e.symm)) (fun k hk _=>bf (by have:=hf.nodup.2; omega)),?_⟩
    ·exact ⟨rfl,rfl,rfl,by simp [withBlock],fun k hk hx _=>bf (fun e=>hx (by rw [← e]; exact k2)),ai _,fun _ _=>.inl rfl,fun i m hi hm=>absurd (ah hm) (by omega)⟩
    ·rw [fz]
     refine FRel.setUndef ?_ hd
     simp only [Nat.add_zero]
     exact hf.putVar hg (by rw [hsz,jh _ _ _ hl]; exact k4) hsp (by rw [hsz]; exact k6)
   ·cases hst
  ·cases hst
theorem done_hstore (hf:FRel E lo ν μ (sget s) a.tmps w) (hr:Rel E μ h w) {dst:Option Tmp} {r:Result Next} (hd:∀ x,dst=some x→x < a.tmps.size) {i o esz:Nat} {xs cs:List AVal} {l:List Value} {u:Value}
  (hu:VRel E μ (.ptr (some (i,o))) u) (hxs:VRels E μ xs l) (h1:∀ v ∈ xs,v.isOne=true) (hg:h.get i=some (.cells esz cs)) (hb:h.base≤i) (hl:o+xs.length≤cs.length)
  (hrun:∀ adr,u = .pointer (some adr)→r=((storeCells adr l).run E.P w).andThen fun _ w'=>.ok .skip w') :
  OpDone E lo ν.ds μ w a dst r (.val (.tuple [])) s (h.put i (.cells esz (splice cs o xs))):=by
 have hlen:=hxs.length
 have hone:=ki hxs h1
 obtain ⟨m,c,e,fr,k1,k2,k3,k4,k5,k6,k7⟩:=hr.obj i _ hg
 simp only [VRel] at hu
 obtain ⟨adr,k8,x',k9,k10⟩:=hu
 rw [k1] at k9; cases k9
 have:=k10 m rfl; subst this
 have hrs:=ig (P:=E.P) (b:=m.blk) (e:=e) (fr:=fr) (a:=⟨m.blk,m.base+o,none⟩) rfl rfl l 0 c w k3 (by simp; omega) (by rw [k4]; exact (k7 hb).lt) hone
 have hsp:=k6.splice hxs h1 hl (by omega)
 refine ⟨Go.undef,_,μ,ν,rfl,.inr ⟨rfl,by rw [hrun _ k8,hrs]; rfl⟩,Step.put k1 (ed _ _) _,hr.put hb k1 ?_,?_⟩
 ·exact ⟨m,_,e,fr,k1,k2,ex (hr.lt i m k1),by rw [gv]; exact k4,by rw [jh _ _ _ hl]; exact k5,hsp,k7⟩
 ·rw [fz]
  refine FRel.setVal ?_ hd (by simp only [VRel]; exact ⟨#[],rfl,by simp [VRels]⟩)
  exact hf.keep (Later.refl _) (fun t cs' hv=>bf (hf.sepm t cs' i m hv k1)) (fun t cs' j m' _ hj hm=>absurd (ah hm) (by omega)) fun q hq=>⟨bf ((hf.sepd q hq).1 i m k1),fun j m' hj hm=>absurd (ah hm) (by omega)⟩
theorem copy_done (hf:FRel E lo ν μ (sget s) a.tmps w) (hr:Rel E μ h w) {dst:Option Tmp} {r:Result Next} (hd:∀ x,dst=some x→x < a.tmps.size)
  {t u ty e:TypeId} {ez:Nat} {x y v:AVal} {vx vy:Value} {h':Heap} (ht:E.P.underlying t=some (.slice e)) (hn:sizeT E.P e=some ez)
  (hx:VRel E μ x vx) (hy:VRel E μ y vy) (he:evExt (.copy ez) [x,y] h=some (v,h'))
  (hrun:r=((Builtin.copy_ #[t,u] ty #[vx,vy]).run E.P w).andThen fun v w'=>.ok (.value v) w') :
  OpDone E lo ν.ds μ w a dst r (.val v) s h':=by
 cases x with
 | slice ao n c=>?_
 | _=>simp [evExt] at he
 simp only [evExt] at he
 generalize hkk:min n (alen y)=k at he
 split at he
 case h_2=>cases he
 rename_i src hsrc
 cases y with
 | slice ya yn yc=>?_
 | _=>cases hsrc
 have hkk:min n yn=k:=hkk
 have hk:k≤yn:=by omega
 have hsrc:rowOf ez h (.slice ya k yc)=some src:=by
  rw [← hsrc]
  exact (if_pos hk).symm
 obtain ⟨yb,ycap,hvy,hyk⟩:∃ yb ycap,vy = .slice yb yn ycap∧VRel E μ (.slice ya k yc) (.slice yb k ycap):=by
  cases ya with
  | none=>simp only [VRel] at hy ⊢; obtain ⟨rfl,h2,h3⟩:=hy; exact ⟨none,0,h3,by omega,h2,by rw [show k=0 by omega]⟩
  | some p =>
   obtain ⟨i,o⟩:=p
   simp only [VRel] at hy ⊢
   obtain ⟨ad,cap,h1,h2,h3,h4,h5,h6⟩:=hy
   exact ⟨some ad,cap,h1,ad,cap,rfl,h2,h3,h4,by omega,h6⟩
 obtain ⟨l,k',q1,q2,q3,q4,q5,q6⟩:=rowOf_rel hr hyk hsrc
 have q5:k'=k:=q5
 subst q5
 have hfc:=q6 E.P w rfl
 have hfc2:(Builtin.firstCells ez k' vy).run E.P w = .ok l.toArray w:=by
  rw [hvy]
  cases yb with
  | none=>exact hfc
  | some ad=>exact hfc
 have hlen:(Builtin.lenOf vy).run E.P w = .ok yn w:=by rw [hvy]; rfl
 split at he
 ·rename_i h0
  cases he
  have hl0:l=[]:=bo (by rw [q4,h0]; simp)
  subst hl0
  refine cz hf hr hd (v:=.int .i64 0) ?_ (by simp [VRel])
  rw [hrun]
  obtain ⟨b,cap,hvx⟩:∃ b cap,vx = .slice b n cap:=by
   cases ao with
   | none=>simp only [VRel] at hx; exact ⟨none,0,by rw [hx.2.2,hx.1]⟩
   | some p=>obtain ⟨i,o⟩:=p; simp only [VRel] at hx; obtain ⟨ad,cap,h1,_⟩:=hx; exact ⟨some ad,cap,h1⟩
  have h0':Nat.min yn n=0:=by rw [show Nat.min yn n=min n yn from Nat.min_comm _ _]; omega
  rw [h0] at hfc2
  rw [hvx]
  cases b <;> simp [Builtin.copy_,run_underlying ht,gb hn,hlen,hfc2,storeCells,goInt,h0']
 ·rename_i h0
  split at he
  case h_2=>cases he
  rename_i i o
  split at he
  case h_2=>cases he
  rename_i e1 cs hg
  split at he
  case isFalse=>cases he
  rename_i hh
  obtain ⟨rfl,hb,hl⟩:=hh
  cases he
  simp only [VRel] at hx
  obtain ⟨ad,cap,hvx,hi,hA,hck,hcap,hsz⟩:=hx
  obtain ⟨m,cc,te,fr,k1,k2,k3,k4,k5,k6,k7⟩:=hr.obj i _ hg
  obtain ⟨x',k8,k9⟩:=hA (by omega)
  rw [k1] at k8; cases k8
  have:=k9 m rfl; subst this
  have hone:=ki q1 q2
  have hll:=q1.length
  have hrs:=ig (P:=E.P) (b:=m.blk) (e:=te) (fr:=fr) (a:=⟨m.blk,m.base+o,none⟩) rfl rfl l 0 cc w k3 (by simp; omega) (by rw [k4]; exact (k7 hb).lt) hone
  have hsp:=k6.splice q1 q2 hl (by omega)
  have hkn:k'=Nat.min yn n:=hkk.symm.trans (Nat.min_comm _ _)
  rw [hkn] at hfc2
  refine ⟨.int .i64 ((k':Nat):Int),withBlock w m.blk (.cells (spliceA cc (m.base+o+0) l) te fr),μ,ν,rfl,.inl ?_,Step.put k1 (ed _ _) _,hr.put hb k1 ?_,?_⟩
  ·rw [hrun,hvx]
   simp [Builtin.copy_,run_underlying ht,gb hn,hlen,hfc2,hrs,goInt]
   first | exact hkn.symm | exact hkn | omega
  ·exact ⟨m,_,te,fr,k1,k2,ex (hr.lt i m k1),by rw [gv]; exact k4,by rw [jh _ _ _ hl]; exact k5,hsp,k7⟩
  ·rw [fz]
   refine FRel.setVal ?_ hd (by simp only [VRel])
   exact hf.keep (Later.refl _) (fun t cs' hv=>bf (hf.sepm t cs' i m hv k1)) (fun t cs' j m' _ hj hm=>absurd (ah hm) (by omega)) fun q hq=>⟨bf ((hf.sepd q hq).1 i m k1),fun j m' hj hm=>absurd (ah hm) (by omega)⟩
theorem appz_done (hf:FRel E lo ν μ (sget s) a.tmps w) (hr:Rel E μ h w) {dst:Option Tmp} {r:Result Next} (hd:∀ x,dst=some x→x < a.tmps.size)
  {t u ty e:TypeId} {kq:IntKind} {i:TypeInfo} {z:List AVal} {x y v:AVal} {vx vy:Value} {h':Heap} (ht:E.P.underlying t=some (.slice e)) (hu:E.P.underlying u=some (.int kq)) (hi:E.P.info? e=some i) (hz:zeroOf E.P e=some z) (hzl:z.length=i.size) (h0:0 < i.size)
  (hx:VRel E μ x vx) (hy:VRel E μ y vy) (he:evExt (.appz i.size i.bytes z) [x,y] h=some (v,h'))
  (hrun:r=((Builtin.append_ #[t,u] ty #[vx,vy]).run E.P w).andThen fun v w'=>.ok (.value v) w') :
  OpDone E lo ν.ds μ w a dst r (.val v) s h':=by
 cases x with
 | slice ao n c=>?_
 | _=>simp [evExt] at he
 cases y with
 | int kd m=>?_
 | _=>simp [evExt] at he
 cases kd <;> simp only [evExt,reduceCtorEq] at he
 obtain ⟨i',zv,hi',hzv,hzt⟩:=info_zero hz
 rw [hi] at hi'; cases hi'
 simp only [VRel] at hy
 subst hy
 have hvx:∃ b cap,vx = .slice b n cap∧n≤cap∧∀ k,c=some k→cap=k:=by
  cases ao with
  | none=>simp only [VRel] at hx; obtain ⟨e1,e2,e3⟩:=hx; exact ⟨none,0,by rw [e3,e1],by omega,fun k hk=>by rw [e2] at hk; cases hk; rfl⟩
  | some p=>obtain ⟨j,o⟩:=p; simp only [VRel] at hx; obtain ⟨ad,cap,h1,_,_,h4,h5,_⟩:=hx; exact ⟨some ad,cap,h1,h5,h4⟩
 obtain ⟨b,cap,hvx,hcap,hck⟩:=hvx
 split at he
 ·rename_i hm
  subst hm
  cases he
  refine cz hf hr hd ?_ hx
  rw [hrun,hvx]
  have hw:IntKind.i64.wrap 0=0:=by decide
  cases b <;> simp [Builtin.append_,run_underlying ht,run_underlying hu,sizeOf,typeInfo,hi,asInt,asIntOf,hw,hcap,storeCells]
 ·rename_i hm
  split at he
  case h_2=>cases he
  rename_i old k hold
  split at he
  case isFalse=>cases he
  rename_i hh
  obtain ⟨hm0,hk,hb,h63⟩:=hh
  cases he
  obtain ⟨q,rfl⟩:=Int.eq_ofNat_of_zero_le (show 0≤m by omega)
  simp only [Int.toNat_natCast] at hk hb h63 ⊢
  have hcapk:=hck k rfl
  subst hcapk
  obtain ⟨lo1,n1,o1,o2,o3,o4,o5,o6⟩:=rowOf_rel hr hx hold
  simp only [alen] at o5
  subst o5
  have hfit:=growslice_fits (need:=n1+q) (old:=cap) (bytes:=i.bytes) hk hb
  have hq:q*i.bytes≤281474976710656:=by
   have:q*i.bytes≤(n1+q)*i.bytes:=fj _ (by omega)
   omega
  have hgr:=Go.Lib.run_append_grow_zeros (P:=E.P) w t u ty e i zv .i64 kq ht hu hi hzv b n1 cap lo1 (by rw [← hvx]; exact o6 E.P w.drew rfl) q (by omega) h0 hk (by omega) hq hfit
  rw [hvx,hgr] at hrun
  obtain ⟨k2,k3⟩:=toAs_rel (E:=E) hzt μ
  obtain ⟨r1,r2⟩:=rep_rel (n:=q) k2 k3 hzl h0
  have hg:n1+q≤grownCap w (n1+q) cap e:=by simp [grownCap,Question.cut]
  have hzc:zv.cells.size=i.size:=by have:=k2.length; simp at this; omega
  have hzz:(Builtin.zeroCells zv.cells q).toList=((Array.range (q*i.size)).map fun j=>zv.cells[j % zv.cells.size]!).toList:=by unfold Builtin.zeroCells; rw [hzc]
  rw [← hzz] at r1
  generalize hZ:Builtin.zeroCells zv.cells q=Z at r1 hrun
  have hZs:Z.size=q*i.size:=by rw [← hZ]; simp [Builtin.zeroCells,hzc]
  generalize hcell:lo1.toArray++Z++Builtin.zeroCells zv.cells (grownCap w (n1+q) cap e - (n1+q))=C at hrun
  have hC:C.size=grownCap w (n1+q) cap e*i.size:=by
   rw [← hcell]
   simp [Builtin.zeroCells,o4,hZs,hzc]
   rw [← dr,← dr]; congr 1; omega
  have hcat:=o1.append r1
  have hlen:h.size=μ.length:=hr.len.symm
  rw [hlen]
  refine jg hf hr hd (.cells i.size (old++rep q z)) (.cells C e) ⟨w.heap.size,0,C.size,i.size⟩ rfl (w1:=w.drew.alloc (.cells C e)) hrun rfl rfl rfl rfl ?_ ?_
  ·refine ⟨⟨w.heap.size,0,C.size,i.size⟩,C,e,(0,0),by simp,rfl,by simp,rfl,?_,fun k v' hk=>⟨?_,?_⟩,fun _=>⟨ai _,fun off _=>by simp⟩⟩
   ·have e1:=o1.length
    have e2:(rep q z).length=q*i.size:=by rw [rep,rep_length z _ hzl]
    simp only [ap,c6,e1,e2,o4,hC,← dr]
    exact fj _ hg
   ·rcases br.1 (bn hk) with hm' | hm'
    ·exact o2 _ hm'
    ·exact r2 _ hm'
   ·obtain ⟨u',hu',hr'⟩:=hcat.get hk
    refine ⟨u',?_,hr'.later (gc μ _)⟩
    have hl2:=ah hu'
    rw [c6,← hcell,Array.getElem?_append_left (by simpa using hl2),← jf,Array.toList_append]
    exact hu'
  ·exact slice_new rfl hg (fun k hk=>by cases hk) (by simp [hC]) (grownCap_le_maxLen w (n1+q) cap e h63)
theorem clear_done (hf:FRel E lo ν μ (sget s) a.tmps w) (hr:Rel E μ h w) {dst:Option Tmp} {r:Result Next} (hd:∀ x,dst=some x→x < a.tmps.size)
  {t ty e:TypeId} {ez:Nat} {z:List AVal} {x v:AVal} {vx:Value} {h':Heap} (ht:E.P.underlying t=some (.slice e)) (hz:zeroOf E.P e=some z) (hzl:z.length=ez) (h0:0 < ez)
  (hx:VRel E μ x vx) (he:evExt (.clear ez z) [x] h=some (v,h'))
  (hrun:r=((Builtin.clear_ #[t] ty #[vx]).run E.P w).andThen fun v w'=>.ok (.value v) w') :
  OpDone E lo ν.ds μ w a dst r (.val v) s h':=by
 cases x with
 | slice ao n c=>?_
 | _=>simp [evExt] at he
 simp only [evExt] at he
 split at he
 ·rename_i hn0
  subst hn0
  cases he
  refine cz hf hr hd (v:=.tuple #[]) ?_ (by simp only [VRel]; exact ⟨#[],rfl,by simp [VRels]⟩)
  rw [hrun]
  obtain ⟨b,cap,hvx⟩:∃ b cap,vx = .slice b 0 cap:=by
   cases ao with
   | none=>simp only [VRel] at hx; exact ⟨none,0,hx.2.2⟩
   | some p=>obtain ⟨i,o⟩:=p; simp only [VRel] at hx; obtain ⟨ad,cap,h1,_⟩:=hx; exact ⟨some ad,cap,h1⟩
  rw [hvx]
  cases b <;> simp [Builtin.clear_,run_underlying ht]
 ·rename_i hn0
  split at he
  case h_2=>cases he
  rename_i i o
  split at he
  case h_2=>cases he
  rename_i e1 cs hg
  split at he
  case isFalse=>cases he
  rename_i hh
  obtain ⟨rfl,hb,hl⟩:=hh
  cases he
  simp only [VRel] at hx
  obtain ⟨ad,cap,hvx,hi,hA,hck,hcap,hsz⟩:=hx
  obtain ⟨m,cc,te,fr,k1,k2,k3,k4,k5,k6,k7⟩:=hr.obj i _ hg
  obtain ⟨x',k8,k9⟩:=hA (by omega)
  rw [k1] at k8; cases k8
  have:=k9 m rfl; subst this
  obtain ⟨zv,z1,z2,z3⟩:=run_zero (E:=E) hz μ w
  obtain ⟨q1,q2⟩:=rep_rel (n:=n) z2 z3 hzl h0
  have hlz:(rep n z).length=n*e1:=by rw [rep,rep_length z e1 hzl]
  have hzc:(Builtin.zeroCells zv.cells n)=(Array.range (n*e1)).map fun i=>zv.cells[i % zv.cells.size]! := by
   have:=z2.length
   simp at this
   unfold Builtin.zeroCells
   rw [← this,hzl]
  generalize hL:((Array.range (n*e1)).map fun i=>zv.cells[i % zv.cells.size]!).toList=l at q1
  have hzl2:(Builtin.zeroCells zv.cells n).toList=l:=by rw [hzc,hL]
  have hone:=ki q1 q2
  have hll:=q1.length
  have hrs:=ig (P:=E.P) (b:=m.blk) (e:=te) (fr:=fr) (a:=⟨m.blk,m.base+o,none⟩) rfl rfl l 0 cc w k3 (by simp; omega) (by rw [k4]; exact (k7 hb).lt) hone
  have hsp:=k6.splice q1 q2 (by rw [hlz]; exact hl) (by omega)
  refine ⟨.tuple #[],withBlock w m.blk (.cells (spliceA cc (m.base+o+0) l) te fr),μ,ν,rfl,.inl ?_,Step.put k1 (ed _ _) _,hr.put hb k1 ?_,?_⟩
  ·rw [hrun,hvx]
   obtain ⟨n',rfl⟩:∃ n',n=n'+1:=⟨n - 1,by omega⟩
   simp only [Builtin.clear_]
   simp [run_underlying ht,z1,hzl2,hrs]
  ·exact ⟨m,_,te,fr,k1,k2,ex (hr.lt i m k1),by rw [gv]; exact k4,by rw [jh _ _ _ (by rw [hlz]; exact hl)]; exact k5,hsp,k7⟩
  ·rw [fz]
   refine FRel.setVal ?_ hd (by simp only [VRel]; exact ⟨#[],rfl,by simp [VRels]⟩)
   exact hf.keep (Later.refl _) (fun t cs' hv=>bf (hf.sepm t cs' i m hv k1)) (fun t cs' j m' _ hj hm=>absurd (ah hm) (by omega)) fun q hq=>⟨bf ((hf.sepd q hq).1 i m k1),fun j m' hj hm=>absurd (ah hm) (by omega)⟩
theorem mark_done (hf:FRel E lo ν μ (sget s) a.tmps w) (hr:Rel E μ h w) {dst:Option Tmp} {r:Result Next} (hd:∀ x,dst=some x→x < a.tmps.size)
  {t e:TypeId} {i o n e1:Nat} {c:Option Nat} {cs:List AVal} {vx:Value} (hs:E.P.underlying t=some (.slice e)) (he:E.P.underlying e=some (.int .u8)) (hroom:E.room=0)
  (hx:VRel E μ (.slice (some (i,o)) n c) vx) (hg:h.get i=some (.cells e1 cs)) (hn:0 < n) (hb:h.base≤i)
  (hrun:r=((convert t t vx).run E.P w).andThen fun v w'=>.ok (.value v) w') :
  OpDone E lo ν.ds μ w a dst r (.val (.slice (some (i,o)) n c)) s (h.put i (.cells e1 cs)):=by
 have hx':=hx
 simp only [VRel] at hx'
 obtain ⟨ad,cap,hvx,hi,hA,hck,hcap,hsz⟩:=hx'
 obtain ⟨m,cc,te,fr,k1,k2,k3,k4,k5,k6,k7⟩:=hr.obj i _ hg
 obtain ⟨x',k8,k9⟩:=hA (by omega)
 rw [k1] at k8; cases k8
 have had:=k9 m rfl
 have hml:=hr.lt i m k1
 have hfree:=k7 hb
 have hsh:w.shape? m.blk=some (te,cc.size):=by unfold World.shape?; rw [k3]
 let fr':Nat × Nat:=if fr.1 == fr.2 then (cc.size,cc.size+1) else (min fr.1 cc.size,max fr.2 (cc.size+1))
 have hfz:w.freeze ⟨m.blk,cc.size,none⟩ 1=withBlock w m.blk (.cells cc te fr'):=by
  unfold World.freeze withBlock
  rw [if_neg (by decide)]
  congr 1
  apply Array.ext
  ·simp
  ·intro j h1 h2
   rw [Array.getElem_modify,Array.getElem_setIfInBounds (by simpa using h1)]
   by_cases hj:m.blk=j
   ·subst hj
    simp only [if_true]
    have:w.heap[m.blk] = .cells cc te fr:=by
     rw [jc hml] at k3
     exact bz k3
    rw [this]
   ·simp [hj]
 have hfr':Free E.room fr' m.size:=by
  obtain ⟨f1,f2⟩:=hfree
  have hcs:cc.size=m.size:=k4
  by_cases hq:fr.1=fr.2
  ·have e':fr'=(cc.size,cc.size+1):=by simp only [fr',beq_iff_eq,hq,if_true]
   rw [e',hroom]
   exact ⟨Nat.le_succ _,fun off ho=>by simp only; omega⟩
  ·have e':fr'=(min fr.1 cc.size,max fr.2 (cc.size+1)):=by simp only [fr',beq_iff_eq,hq,if_false]
   rw [e',hroom]
   have h3:¬ fr.1 < m.size:=fun h=>f2 fr.1 (by omega) ⟨ai _,by omega⟩
   exact ⟨by simp only; omega,fun off ho=>by simp only; omega⟩
 refine ⟨vx,withBlock w m.blk (.cells cc te fr'),μ,ν,rfl,.inl ?_,Step.put k1 (ed _ _) _,hr.put hb k1 ⟨m,cc,te,fr',k1,k2,ex hml,k4,k5,k6,fun _=>hfr'⟩,?_⟩
 ·rw [hrun,hvx]
  have hadb:ad.block=m.blk:=by rw [had]
  simp [convert,run_underlying hs,run_underlying he,markStringish,hadb,hsh,hfz]
 ·rw [fz]
  refine FRel.setVal ?_ hd hx
  exact hf.keep (Later.refl _) (fun t cs' hv=>bf (hf.sepm t cs' i m hv k1)) (fun t cs' j m' _ hj hm=>absurd (ah hm) (by omega)) fun q hq=>⟨bf ((hf.sepd q hq).1 i m k1),fun j m' hj hm=>absurd (ah hm) (by omega)⟩
theorem le_grown (w:World) (need old:Nat) (e:TypeId):need≤grownCap w need old e:=by
 simp [grownCap,Question.cut]
theorem append_done (hf:FRel E lo ν μ (sget s) a.tmps w) (hr:Rel E μ h w) {dst:Option Tmp} {r:Result Next} (hd:∀ x,dst=some x→x < a.tmps.size)
  {t u ty e:TypeId} {i:TypeInfo} {z:Value} {x y v:AVal} {vx vy:Value} {h':Heap} (ht:E.P.underlying t=some (.slice e)) (hu:(∃ e',E.P.underlying u=some (.slice e'))∨E.P.underlying u=some .string) (hi:E.P.info? e=some i) (hz:i.zero=some z) (hzs:z.cells.size=i.size)
  (hx:VRel E μ x vx) (hy:VRel E μ y vy) (he:aAppend i.size i.bytes h x y=some (v,h'))
  (hrun:r=((Builtin.append_ #[t,u] ty #[vx,vy]).run E.P w).andThen fun v w'=>.ok (.value v) w') :
  OpDone E lo ν.ds μ w a dst r (.val v) s h':=by
 unfold aAppend at he
 cases x with
 | slice ao n0 c=>?_
 | _=>cases he
 simp only at he
 split at he
 case h_2=>cases he
 rename_i old new ho hn
 unfold aApp at he
 have hk:=hu
 obtain ⟨lo1,n1,o1,o2,o3,o4,o5,o6⟩:=rowOf_rel hr hx ho
 obtain ⟨ln,n2,p1,p2,p3,p4,p5,p6⟩:=rowOf_rel hr hy hn
 simp only [alen] at o5
 subst o5
 rw [← p5] at he
 have hsrc:Src E.P i.size u vy n2 ln w:=⟨hk,fun w'=>p3 E.P w',p6 E.P w rfl,p6 E.P w.drew rfl,p4,fun v hv=>by
  have:=ki p1 p2 v hv
  cases v <;> simp_all [one?,Value.oneCell']⟩
 split at he
 ·-- nothing is appended
  rename_i h0
  cases he
  subst h0
  have hl0:ln=[]:=bo (by simpa using p4)
  subst hl0
  have:∃ b cap,vx = .slice b n1 cap∧n1≤cap:=by
   cases ao with
   | none=>simp only [VRel] at hx; obtain ⟨e1,_,e2⟩:=hx; exact ⟨none,0,by rw [e2,e1],by omega⟩
   | some io=>simp only [VRel] at hx; obtain ⟨ad,cap,e1,_,_,_,e2,_⟩:=hx; exact ⟨some ad,cap,e1,e2⟩
  obtain ⟨b,cap,rfl,hcap⟩:=this
  refine cz hf hr hd ?_ hx
  rw [hrun]
  rcases hk with ⟨e',hk⟩ | hk <;> (cases b <;> simp [Builtin.append_,run_underlying ht,run_underlying hk,sizeOf,typeInfo,hi,p3,hcap,p6,storeCells])
 ·rename_i h0
  split at he
  ·rename_i hh
   obtain ⟨hb,h63⟩:=hh
   have hcat:=o1.append p1
   have hcl:∀ (k:Nat) (v':AVal),(old++new)[k]? = some v'→v'.isOne=true:=by
    intro k v' hk
    rcases br.1 (bn hk) with hm' | hm'
    ·exact o2 _ hm'
    ·exact p2 _ hm'
   have grow:∀ (b:Option Addr) (cap:Nat) (h1:Heap) (μ1:MM),vx = .slice b n1 cap→cap < n1+n2→Later μ μ1→Rel E μ1 h1 w→FRel E lo ν μ1 (sget s) a.tmps w →
     OpDone E lo ν.ds μ1 w a dst r (.val (.slice (some (h1.size,0)) (n1+n2) none)) s (h1.push (.cells i.size (old++new))):=by
    intro b cap h1 μ1 hvx hcap hl1 hr1 hf1
    have hfit:=growslice_fits (need:=n1+n2) (old:=cap) (bytes:=i.bytes) hcap hb
    have hgr:=run_append_grow_src (P:=E.P) w t u ty e i z ht hi hz b n1 cap lo1 (by rw [← hvx]; exact o6 E.P w.drew rfl) vy n2 ln hsrc hcap (by omega) hfit
    rw [hvx,hgr] at hrun
    have hg:=le_grown w (n1+n2) cap e
    generalize hcell:(lo1++ln).toArray++Builtin.zeroCells z.cells (grownCap w (n1+n2) cap e - (n1+n2))=C at hrun
    have hC:C.size=grownCap w (n1+n2) cap e*i.size:=by
     rw [← hcell]
     simp [Builtin.zeroCells,o4,p4,hzs]
     rw [← dr,← dr]; congr 1; omega
    have hlen:h1.size=μ1.length:=hr1.len.symm
    rw [hlen]
    refine jg hf1 hr1 hd (.cells i.size (old++new)) (.cells C e) ⟨w.heap.size,0,C.size,i.size⟩ rfl (w1:=w.drew.alloc (.cells C e)) hrun rfl rfl rfl rfl ?_ ?_
    ·refine ⟨⟨w.heap.size,0,C.size,i.size⟩,C,e,(0,0),by simp,rfl,by simp,rfl,?_,fun k v' hk=>?_,fun _=>⟨ai _,fun off _=>by simp⟩⟩
     ·have e1:=o1.length
      have e2:=p1.length
      simp only [ap,c6,e1,e2,o4,p4,hC,← dr]
      exact fj _ hg
     ·obtain ⟨u,hu',hr'⟩:=hcat.get hk
      refine ⟨hcl k v' hk,u,?_,(hr'.later hl1).later (gc μ1 _)⟩
      rw [c6,← hcell,Array.getElem?_append_left (by simpa using ah hu')]
      simpa using hu'
    ·exact slice_new rfl hg (fun k hk=>by cases hk) (by simp [hC]) (grownCap_le_maxLen w (n1+n2) cap e h63)
   split at he
   ·-- nil
    cases he
    simp only [VRel] at hx
    obtain ⟨e1,_,e2⟩:=hx
    exact grow none 0 h μ (by rw [e2,e1]) (by omega) (Later.refl _) hr hf
   ·rename_i j o
    simp only [VRel] at hx
    obtain ⟨ad,cap,hvx,hj,hA,hck,hcap,hsz⟩:=hx
    split at he
    ·-- full
     rename_i hc
     cases he
     exact grow (some ad) cap h μ hvx (by have:=hck _ hc; omega) (Later.refl _) hr hf
    ·split at he
     ·rename_i hbr
      cases he
      obtain ⟨hbase,hrow⟩:=hbr
      unfold rowIs at hrow
      split at hrow
      case h_2=>cases hrow
      rename_i e' cs hg
      have he':e'=i.size:=by simpa using hrow
      subst he'
      obtain ⟨m,cc,te,fr,k1,k2,k3,k4,k5,k6,k7⟩:=hr.obj j _ hg
      by_cases hroom:n1+n2≤cap
      ·-- there is room: in its place
       obtain ⟨x',k8,k9⟩:=hA (by omega)
       rw [k1] at k8; cases k8
       have:=k9 m rfl; subst this
       have hs:=hsz m k1
       rw [k2] at hs
       have hle:m.base+o+n1*i.size+ln.length≤cc.size:=by
        rw [p4,k4,jj,← dr]
        exact b8 (Nat.add_le_add_left (fj _ hroom) _) hs
       have hone:=ki p1 p2
       have hrs:=ig (P:=E.P) (b:=m.blk) (e:=te) (fr:=fr) (a:=⟨m.blk,m.base+o+n1*i.size,none⟩) rfl rfl ln 0 cc w k3 (by simpa using hle) (by rw [k4]; exact (k7 hbase).lt) hone
       have hrun':r = .ok (.value (.slice (some ⟨m.blk,m.base+o,none⟩) (n1+n2) cap)) (withBlock w m.blk (.cells (spliceA cc (m.base+o+n1*i.size) ln) te fr)):=by
        rw [hrun,hvx]
        have e1:(⟨m.blk,m.base+o,none⟩:Addr).add (n1*i.size)=⟨m.blk,m.base+o+n1*i.size,none⟩:=add_plain _ _ _
        rcases hk with ⟨e'',hk⟩ | hk <;> (simp [Builtin.append_,run_underlying ht,run_underlying hk,sizeOf,typeInfo,hi,p3,hroom,p6,e1,hrs])
       have hnew:ORel E (μ.set j none++[some ⟨m.blk,m.base+o,m.size,m.esz⟩]) h.base μ.length (withBlock w m.blk (.cells (spliceA cc (m.base+o+n1*i.size) ln) te fr)) (.cells i.size (old++new)):=by
        have hold:∀ (k:Nat) (v':AVal),old[k]? = some v'→∃ u,cc[m.base+o+k]? = some u∧VRel E μ v' u:=by
         intro k v' hk'
         have hn0:n1≠0:=by
          intro h0'; subst h0'
          have:=ah hk'
          rw [o1.length,o4] at this; omega
         simp only [rowOf] at ho
         rw [if_neg hn0,hg] at ho
         simp only at ho
         split at ho
         ·cases ho
          have hkk:k < n1*i.size:=by
           have:=ah hk'
           simp at this; omega
          rw [dy hkk,cq] at hk'
          obtain ⟨_,u,hu1,hu2⟩:=k6 _ v' hk'
          exact ⟨u,by rw [← hu1]; congr 1; omega,hu2⟩
         ·cases ho
        have hlo:old.length=n1*i.size:=by rw [o1.length,o4]
        have hln:new.length=n2*i.size:=by rw [p1.length,p4]
        refine ⟨⟨m.blk,m.base+o,m.size,m.esz⟩,_,te,fr,?_,k2,ex (hr.lt j m k1),by rw [gv]; exact k4,?_,fun k v' hk'=>⟨hcl k v' hk',?_⟩,fun _=>k7 hbase⟩
        ·rw [au (by simp)]; simp
        ·simp only [ap,hlo,hln]
         rw [p4,k4] at hle; omega
        ·rw [spliceA_get ln cc _ _ hle]
         by_cases hk2:k < n1*i.size
         ·rw [ag (by omega)] at hk'
          obtain ⟨u,hu1,hu2⟩:=hold k v' hk'
          rw [if_neg (by simp only; omega)]
          exact ⟨u,hu1,(hu2.later (later_set μ j)).later (gc _ _)⟩
         ·rw [au (by omega),hlo] at hk'
          obtain ⟨u,hu1,hu2⟩:=p1.get hk'
          have:=ah hu1
          rw [if_pos (by simp only; omega)]
          refine ⟨u,?_,(hu2.later (later_set μ j)).later (gc _ _)⟩
          rw [← hu1]; congr 1; simp only; omega
       have ht1:=hr.take (m':=⟨m.blk,m.base+o,m.size,m.esz⟩) hbase k1 rfl hnew
       have hwm:((h.put j .dead).push (.cells i.size (old++new))).wmin≤j:=ed _ _
       have hst:Step (fun k=>lo≤k) _ μ w _ (withBlock w m.blk (.cells (spliceA cc (m.base+o+n1*i.size) ln) te fr)) :=
        Step.take (X:=fun k=>lo≤k) (m':=⟨m.blk,m.base+o,m.size,m.esz⟩) (.cells (spliceA cc (m.base+o+n1*i.size) ln) te fr) k1 rfl hwm
       refine ⟨_,_,_,ν,rfl,.inl hrun',hst,ht1,?_⟩
       rw [fz]
       refine FRel.setVal ?_ hd ?_
       ·refine hf.keep hst.later (fun t cs' hv=>bf (hf.sepm t cs' j m hv k1)) (fun t cs' q m' hv hq hm'=>?_) fun r' hr'=>⟨bf ((hf.sepd r' hr').1 j m k1),fun q m' hq hm'=>?_⟩
        ·rcases gq hm' with b | ⟨_,b⟩
         ·exact absurd (ah b) (by simp; omega)
         ·cases b; exact hf.sepm t cs' j m hv k1
        ·rcases gq hm' with b | ⟨_,b⟩
         ·exact absurd (ah b) (by simp; omega)
         ·cases b; exact (hf.sepd r' hr').1 j m k1
       ·have hlen:h.size=μ.length:=hr.len.symm
        rw [hlen]
        simp only [VRel]
        refine ⟨_,cap,rfl,⟨by simp,hj.2⟩,fun _=>⟨some ⟨m.blk,m.base+o,m.size,m.esz⟩,by rw [au (by simp)]; simp,fun m' hm'=>by cases hm'; rfl⟩,(fun k hk=>by cases hk),hroom,fun m' hm'=>?_⟩
        rw [au (by simp)] at hm'
        simp at hm'; subst hm'
        simp only [k2,Nat.add_zero]
        exact hs
      ·-- there is none
       have hk1:=hr.kill j
       have hfk:FRel E lo ν (μ.set j none) (sget s) a.tmps w:=hf.keep (later_set μ j) (fun _ _ _=>rfl) (fun t cs' q m' _ hq hm'=>absurd (ah hm') (by simp; omega)) fun _ _=>⟨rfl,fun q m' hq hm'=>absurd (ah hm') (by simp; omega)⟩
       obtain ⟨v',w',μ',ν',q0,q1,q2,q3,q4⟩:=grow (some ad) cap (h.put j .dead) (μ.set j none) hvx (by omega) (later_set μ j) hk1 hfk
       have hsz':(h.put j .dead).size=h.size:=by simp [Heap.put,Heap.size]
       rw [hsz'] at q4
       refine ⟨v',w',μ',ν',q0,q1,?_,q3,q4⟩
       exact (Step.kill (X:=fun k=>lo≤k) (wm:=j) μ w (ai _)).trans q2 (ed _ _)
     ·cases he
  ·cases he
end
end Go.Abs

namespace Go.Abs
section
variable {E:Env} {lo:Nat} {ν:Fr} {μ:MM} {s:Slots} {h:Heap} {a:Act} {w:World}
def FitV (n:Option Nat) (x:AVal):Prop:=match n with
 | some _=>∃ cs,x = .agg cs
 | none=>x.isOne=true
theorem part_fit {cs:List AVal} {o:Nat} {n:Option Nat} {r:AVal} (h1:∀ x ∈ cs,x.isOne=true) (h:Abs.part cs o n=some r):FitV n r:=by
 cases n with
 | none=>simp only [Abs.part] at h; exact h1 _ (bn h)
 | some k =>
  simp only [Abs.part] at h
  split at h
  ·cases h; exact ⟨_,rfl⟩
  ·cases h
theorem iq:∀ {ks:List CK} {as:List AVal},areKeys ks as=true→as.length=ks.length
 | [],[],_=>rfl
 | _ :: ks,_ :: as,h=>by
  simp only [areKeys,az] at h
  simp [iq h.2]
 | [],_ :: _,h=>by simp [areKeys] at h
 | _ :: _,[],h=>by simp [areKeys] at h
theorem ku:∀ {k1 k2:List CK} {as:List AVal},areKeys (k1++k2) as=true→areKeys k1 (as.take k1.length)=true∧areKeys k2 (as.drop k1.length)=true
 | [],k2,as,h=>by simpa [areKeys] using h
 | c :: k1,k2,[],h=>by simp [areKeys] at h
 | c :: k1,k2,a :: as,h=>by
  simp only [ff,areKeys,az] at h
  obtain ⟨h1,h2⟩:=ku h.2
  simp only [bv,List.take_succ_cons,List.drop_succ_cons,areKeys,az]
  exact ⟨⟨h.1,h1⟩,h2⟩
theorem akeyL_split:∀ (k:Nat) {as bs:List AVal} {r:Bool},k≤as.length→as.length=bs.length→akeyL as bs=some r→∃ r1,akeyL (as.take k) (bs.take k)=some r1∧(r1=true→akeyL (as.drop k) (bs.drop k)=some r)∧(r1=false→r=false)
 | 0,as,bs,r,_,_,h=>⟨true,by simp [akeyL],fun _=>by simpa using h,fun e=>by cases e⟩
 | k+1,[],bs,r,hk,_,_=>by simp at hk
 | k+1,a :: as,[],r,_,hl,_=>by simp at hl
 | k+1,a :: as,b :: bs,r,hk,hl,h=>by
  simp only [akeyL] at h
  cases hab:akey1 a b with
  | none=>rw [hab] at h; cases h
  | some q =>
   rw [hab] at h
   cases q with
   | false =>
    cases h
    exact ⟨false,by simp [akeyL,hab],(fun e=>by cases e),(fun _=>rfl)⟩
   | true =>
    obtain ⟨r1,h1,h2,h3⟩:=akeyL_split k (by simpa using hk) (by simpa using hl) h
    exact ⟨r1,by simp [akeyL,hab,h1],h2,h3⟩
def EqOK (E:Env) (d:Nat) (t:TypeId) (l:List CK):Prop :=
 ∀ (μ:MM) (w:World) (n:Option Nat) (x y:AVal) (u v:Value) (as bs:List AVal) (r:Bool),partT E.P t=some n→FitV n x→FitV n y→VRel E μ x u→VRel E μ y v→x.cells? = some as→y.cells? = some bs →
  as.length=bs.length→areKeys l as=true→akeyL as bs=some r→(Op.equalIn d t u v).run E.P w = .ok r w
theorem eq_one {d:Nat} {t:TypeId} {c:CK} {l:List CK} (hl:l=[c]) (ht:(c = .b∧E.P.underlying t=some .bool)∨(c = .i∧∃ k,E.P.underlying t=some (.int k))∨(c = .s∧E.P.underlying t=some .string)):EqOK E (d+1) t l:=by
 intro μ w n x y u v as bs r hn fx fy hx hy cx cy hlen hk hr
 subst hl
 have hn0:n=none:=by
  unfold partT at hn
  rcases ht with ⟨_,ht⟩ | ⟨_,k,ht⟩ | ⟨_,ht⟩ <;> (rw [ht] at hn; simp at hn; simp [← hn])
 subst hn0
 have one:∀ {z:AVal} {zs:List AVal},FitV none z→z.cells? = some zs→zs=[z]:=by
  intro z zs hz hc
  have hz:z.isOne=true:=hz
  cases z <;> simp [AVal.cells?,AVal.isOne] at hc hz <;> exact hc.symm
 have e1:=one fx cx
 have e2:=one fy cy
 subst e1; subst e2
 simp only [areKeys,Bool.and_true] at hk
 simp only [akeyL] at hr
 have hr2:akey1 x y=some r:=by
  cases hab:akey1 x y with
  | none=>rw [hab] at hr; cases hr
  | some q =>
   rw [hab] at hr
   cases q with
   | false=>exact hr
   | true=>exact hr
 clear hr
 rcases ht with ⟨rfl,ht⟩ | ⟨rfl,k,ht⟩ | ⟨rfl,ht⟩
 ·cases x <;> simp only [CK.is,bw] at hk
  cases y <;> simp only [akey1,reduceCtorEq] at hr2
  simp only [VRel] at hx hy
  subst hx; subst hy
  injection hr2 with hr2
  rw [run_equalIn_bool' w d t _ _ ht,← hr2]
  congr 1
 ·cases x <;> simp only [CK.is,bw] at hk
  cases y <;> simp only [akey1,reduceCtorEq] at hr2
  simp only [VRel] at hx hy
  subst hx; subst hy
  split at hr2
  ·rename_i hkk
   subst hkk
   injection hr2 with hr2
   rw [run_equalIn_int w d t _ _ _ _ ht,← hr2]
   congr 1
  ·cases hr2
 ·cases x <;> simp only [CK.is,bw] at hk
  cases y <;> simp only [akey1,reduceCtorEq] at hr2
  simp only [VRel] at hx hy
  subst hx; subst hy
  injection hr2 with hr2
  rw [run_equalIn_string w d t _ _ ht,← hr2]
  congr 1
  rw [Bool.eq_iff_iff]; simp [ByteArray.toList_eq]
theorem cells_part {cs:List AVal} {o k:Nat} {n:Option Nat} {r:AVal} (h1:∀ x ∈ cs,x.isOne=true) (hk:n=some k∨(n=none∧k=1)) (h:Abs.part cs o n=some r):r.cells? = some ((cs.drop o).take k):=by
 rcases hk with rfl | ⟨rfl,rfl⟩
 ·simp only [Abs.part] at h
  split at h
  ·cases h; rfl
  ·cases h
 ·simp only [Abs.part] at h
  have h2:=h1 _ (bn h)
  have h3:(cs.drop o).take 1=[r]:=by
   have hlt:=ah h
   rw [List.drop_eq_getElem_cons hlt,List.take_succ_cons]
   rw [aj hlt] at h
   simp [bz h]
  rw [h3]
  cases r <;> simp [AVal.cells?,AVal.isOne] at h2 ⊢
theorem part_at {cs:List AVal} {o k:Nat} {n:Option Nat} (hk:n=some k∨(n=none∧k=1)) (ho:o+k≤cs.length):∃ r,Abs.part cs o n=some r:=by
 rcases hk with rfl | ⟨rfl,rfl⟩
 ·exact ⟨_,by simp only [Abs.part]; rw [if_pos ho]⟩
 ·exact ⟨_,by simp only [Abs.part]; exact aj (by omega)⟩
theorem ckOf_part {P:Program} {n:Nat} {t:TypeId} {l:List CK} (h:ckOf P n t=some l) (hs:sizeT P t=some l.length):∃ m,partT P t=some m∧(m=some l.length∨(m=none∧l.length=1)):=by
 cases n with
 | zero=>simp [ckOf] at h
 | succ n =>
  unfold partT
  simp only [ckOf] at h
  split at h <;> (try cases h)
  ·rename_i ht; rw [ht]; exact ⟨none,rfl,.inr ⟨rfl,rfl⟩⟩
  ·rename_i ht; rw [ht]; exact ⟨none,rfl,.inr ⟨rfl,rfl⟩⟩
  ·rename_i ht; rw [ht]; exact ⟨none,rfl,.inr ⟨rfl,rfl⟩⟩
  ·rename_i ht; rw [ht]; exact ⟨some l.length,by simp [hs],.inl rfl⟩
  ·rename_i ht; rw [ht]; exact ⟨some l.length,by simp [hs],.inl rfl⟩
theorem eq_fields {d:Nat} {g:TypeId→Option (List CK)} (hg:∀ t l,g t=some l→EqOK E d t l) (hgp:∀ t l,g t=some l→sizeT E.P t=some l.length→∃ m,partT E.P t=some m∧(m=some l.length∨(m=none∧l.length=1)))
  {A B:List AVal} {xs ys:Array Value} (hA:VRels E μ A xs.toList) (hB:VRels E μ B ys.toList) (hA1:∀ x ∈ A,x.isOne=true) (hB1:∀ x ∈ B,x.isOne=true) (hlen:A.length=B.length) :
  ∀ (fs:List Field) (off:Nat) (l:List CK) (r:Bool),ckFields g E.P off fs=some l→areKeys l (A.drop off)=true→akeyL (A.drop off) (B.drop off)=some r→(Op.eqFields d xs ys fs).run E.P w = .ok r w
 | [],off,l,r,hl,hk,hr=>by
  simp only [ckFields] at hl; cases hl
  have h1:=iq hk
  have e1:A.drop off=[]:=bo (by simpa using h1)
  rw [e1] at hr
  cases hb:B.drop off with
  | nil=>rw [hb] at hr; simp [akeyL] at hr; subst hr; simp [Op.eqFields]
  | cons b bs=>rw [hb] at hr; simp [akeyL] at hr
 | f :: fs,off,l,r,hl,hk,hr=>by
  simp only [ckFields] at hl
  split at hl
  case h_2=>cases hl
  rename_i l1 hl1
  split at hl
  case isFalse=>cases hl
  rename_i hh
  obtain ⟨ho,hn,hs,h0⟩:=hh
  rw [ae] at hl
  obtain ⟨l2,hl2,rfl⟩:=hl
  obtain ⟨k1,k2⟩:=ku hk
  have hkl:=iq hk
  simp only [fh,ap] at hkl
  obtain ⟨m,hm,hmk⟩:=hgp f.type l1 hl1 hs
  have hoff:off+l1.length≤A.length:=by omega
  obtain ⟨x,hx⟩:=part_at (cs:=A) (o:=off) hmk hoff
  obtain ⟨y,hy⟩:=part_at (cs:=B) (o:=off) hmk (by omega)
  obtain ⟨u,p1,q1⟩:=part_rel w hm hA hA1 hx
  obtain ⟨v,p2,q2⟩:=part_rel w hm hB hB1 hy
  obtain ⟨r1,s1,s2,s3⟩:=akeyL_split l1.length (by simp; omega) (by simp; omega) hr
  have he:=hg f.type l1 hl1 μ w m x y u v _ _ r1 hm (part_fit hA1 hx) (part_fit hB1 hy) q1 q2 (cells_part hA1 hmk hx) (cells_part hB1 hmk hy) (by simp; omega) k1 s1
  rw [← ho] at p1 p2
  simp only [Op.eqFields,hn,ne_eq,not_false_eq_true,if_true,Sem.run_bind,p1,p2,he,Result.andThen_ok]
  cases r1 with
  | false=>rw [s3 rfl]; simp
  | true =>
   have:=eq_fields hg hgp hA hB hA1 hB1 hlen fs (off+l1.length) l2 r hl2 (by rw [g9] at k2; exact k2) (by have:=s2 rfl; rwa [g9,g9] at this)
   simpa using this
theorem eq_items {d:Nat} {e:TypeId} {le:List CK} (he:EqOK E d e le) {m:Option Nat} (hm:partT E.P e=some m) (hmk:m=some le.length∨(m=none∧le.length=1)) (h0:0 < le.length) (hc:E.P.cellsOf e=le.length)
  {A B:List AVal} {xs ys:Array Value} (hA:VRels E μ A xs.toList) (hB:VRels E μ B ys.toList) (hA1:∀ x ∈ A,x.isOne=true) (hB1:∀ x ∈ B,x.isOne=true) (hlen:A.length=B.length) :
  ∀ (k j:Nat) (r:Bool),areKeys (List.replicate k le).flatten (A.drop (j*le.length))=true→akeyL (A.drop (j*le.length)) (B.drop (j*le.length))=some r →
   (Op.eqItems d e (E.P.cellsOf e) xs ys (List.range' j k)).run E.P w = .ok r w
 | 0,j,r,hk,hr=>by
  have h1:=iq hk
  have e1:A.drop (j*le.length)=[]:=bo (by simpa using h1)
  rw [e1] at hr
  cases hb:B.drop (j*le.length) with
  | nil=>rw [hb] at hr; simp [akeyL] at hr; subst hr; simp [Op.eqItems]
  | cons b bs=>rw [hb] at hr; simp [akeyL] at hr
 | k+1,j,r,hk,hr=>by
  rw [List.replicate_succ,List.flatten_cons] at hk
  obtain ⟨k1,k2⟩:=ku hk
  have hkl:=iq hk
  simp only [fh,ap] at hkl
  have hoff:j*le.length+le.length≤A.length:=by omega
  obtain ⟨x,hx⟩:=part_at (cs:=A) (o:=j*le.length) hmk hoff
  obtain ⟨y,hy⟩:=part_at (cs:=B) (o:=j*le.length) hmk (by omega)
  obtain ⟨u,p1,q1⟩:=part_rel w hm hA hA1 hx
  obtain ⟨v,p2,q2⟩:=part_rel w hm hB hB1 hy
  obtain ⟨r1,s1,s2,s3⟩:=akeyL_split le.length (by simp; omega) (by simp; omega) hr
  have hq:=he μ w m x y u v _ _ r1 hm (part_fit hA1 hx) (part_fit hB1 hy) q1 q2 (cells_part hA1 hmk hx) (cells_part hB1 hmk hy) (by simp; omega) k1 s1
  simp only [List.range'_succ,Op.eqItems,hc,Sem.run_bind,p1,p2,hq,Result.andThen_ok]
  cases r1 with
  | false=>rw [s3 rfl]; simp
  | true =>
   have e1:j*le.length+le.length=(j+1)*le.length:=by rw [dr,Nat.one_mul]
   have:=eq_items he hm hmk h0 hc hA hB hA1 hB1 hlen k (j+1) r (by rw [g9,e1] at k2; exact k2) (by have:=s2 rfl; rwa [g9,g9,e1] at this)
   rw [hc] at this
   simpa using this
theorem eq_ck:∀ (n:Nat) (t:TypeId) (l:List CK),ckOf E.P n t=some l→∀ d,EqOK E (d+n) t l
 | 0,t,l,h,d=>by simp [ckOf] at h
 | n+1,t,l,h,d=>by
  have h0:=h
  simp only [ckOf] at h
  split at h <;> (try cases h)
  ·rename_i ht; exact eq_one rfl (.inl ⟨rfl,ht⟩)
  ·rename_i ht; exact eq_one rfl (.inr (.inl ⟨rfl,_,ht⟩))
  ·rename_i ht; exact eq_one rfl (.inr (.inr ⟨rfl,ht⟩))
  ·rename_i fs ht
   split at h
   ·cases h
   rename_i hst
   intro μ w m x y u v as bs r hm fx fy hx hy cx cy hlen hk hr
   have hmm:∃ k,m=some k:=by
    unfold partT at hm
    rw [ht] at hm
    simp only [ae] at hm
    obtain ⟨k,_,rfl⟩:=hm
    exact ⟨k,rfl⟩
   obtain ⟨k,rfl⟩:=hmm
   obtain ⟨A,rfl⟩:=fx
   obtain ⟨B,rfl⟩:=fy
   simp only [AVal.cells?] at cx cy; cases cx; cases cy
   simp only [VRel] at hx hy
   obtain ⟨xs,rfl,hA,hA1⟩:=hx
   obtain ⟨ys,rfl,hB,hB1⟩:=hy
   have hfs:E.P.fieldsOf t=fs:=by simp [Program.fieldsOf,ht]
   have:=eq_fields (d:=d+n) (w:=w) (g:=ckOf E.P n) (fun t l h=>eq_ck n t l h d) (fun t l h hs=>ckOf_part h hs) hA hB hA1 hB1 hlen fs.toList 0 l r h (by simpa using hk) (by simpa using hr)
   rw [show d+(n+1)=(d+n)+1 from rfl,run_equalIn_struct w (d+n) t xs ys (by rw [hfs]; exact ht) (by simpa using hst),hfs]
   exact this
  ·rename_i k e ht
   split at h
   case h_2=>cases h
   rename_i le hle
   split at h
   case isFalse=>cases h
   rename_i hs
   cases h
   intro μ w m x y u v as bs r hm fx fy hx hy cx cy hlen hk hr
   have hmm:∃ k,m=some k:=by
    unfold partT at hm
    rw [ht] at hm
    simp only [ae] at hm
    obtain ⟨k,_,rfl⟩:=hm
    exact ⟨k,rfl⟩
   obtain ⟨q,rfl⟩:=hmm
   obtain ⟨A,rfl⟩:=fx
   obtain ⟨B,rfl⟩:=fy
   simp only [AVal.cells?] at cx cy; cases cx; cases cy
   simp only [VRel] at hx hy
   obtain ⟨xs,rfl,hA,hA1⟩:=hx
   obtain ⟨ys,rfl,hB,hB1⟩:=hy
   obtain ⟨m',hm',hmk⟩:=ckOf_part hle hs.1
   have hinfo:∃ i,E.P.info? e=some i∧i.size=le.length:=by
    have:=hs.1
    unfold sizeT at this
    rw [ae] at this
    exact this
   obtain ⟨i,hi,hisz⟩:=hinfo
   have hc:E.P.cellsOf e=le.length:=by simp [Program.cellsOf,hi,hisz]
   have:=eq_items (w:=w) (eq_ck n e le hle d) hm' hmk hs.2 hc hA hB hA1 hB1 hlen k 0 r (by simpa using hk) (by simpa using hr)
   rw [show d+(n+1)=(d+n)+1 from rfl,run_equalIn_array w (d+n) xs ys ht hi,List.range_eq_range']
   exact this
theorem key_ck {P:Program} {t:TypeId} {kn:KeyT} (h:keyT P t=some kn):(∃ c,kn = .one c∧ckOf P 2 t=some [c]∧partT P t=some none)∨(∃ l m,kn = .agg l∧ckOf P 2 t=some l∧(partT P t=some (some m)∨partT P t=none)):=by
 unfold keyT at h
 split at h
 ·cases h
 split at h <;> (try cases h)
 ·rename_i ht; exact .inl ⟨.b,rfl,by simp [ckOf,ht],by simp [partT,ht]⟩
 ·rename_i ht; exact .inl ⟨.i,rfl,by simp [ckOf,ht],by simp [partT,ht]⟩
 ·rename_i ht; exact .inl ⟨.s,rfl,by simp [ckOf,ht],by simp [partT,ht]⟩
 ·rename_i ht
  rw [ae] at h
  obtain ⟨l,hl,rfl⟩:=h
  cases hs:sizeT P t with
  | none=>exact .inr ⟨l,0,rfl,hl,.inr (by simp [partT,ht,hs])⟩
  | some m=>exact .inr ⟨l,m,rfl,hl,.inl (by simp [partT,ht,hs])⟩
theorem key_size {P:Program} {t:TypeId} {kn:KeyT} (h:keyT P t=some kn):sizeT P t≠none:=by
 unfold keyT at h
 split at h
 ·cases h
 ·assumption
theorem key_eq {t:TypeId} {kn:KeyT} {x y:AVal} {u v:Value} {r:Bool} (hk:keyT E.P t=some kn) (hx:VRel E μ x u) (hy:VRel E μ y v) (hkx:isKey kn x=true) (hr:akey x y=some r) (w:World) :
  (Op.equal t u v).run E.P w = .ok r w:=by
 rcases key_ck hk with ⟨c,rfl,hc,hp⟩ | ⟨l,m,rfl,hc,hp⟩
 ·have he:=eq_ck 2 t _ hc 9998
  have h1:x.isOne=true∧x.cells? = some [x]:=by cases x <;> cases c <;> simp [isKey,CK.is] at hkx <;> simp [AVal.isOne,AVal.cells?]
  have h2:akey1 x y=some r:=by
   cases x <;> first | exact hr | (simp [AVal.isOne] at h1)
  have h3:y.isOne=true∧y.cells? = some [y]:=by
   cases x <;> cases y <;> simp [akey1] at h2 <;> simp [AVal.isOne,AVal.cells?]
  refine he μ w none x y u v [x] [y] r hp h1.1 h3.1 hx hy h1.2 h3.2 rfl (by simpa [areKeys,isKey] using hkx) ?_
  simp only [akeyL,h2]
  cases r <;> rfl
 ·have he:=eq_ck 2 t _ hc 9998
  have hp':partT E.P t=some (some m):=by
   rcases hp with hp | hp
   ·exact hp
   ·exfalso
    have:∃ ty,E.P.underlying t=some ty:=by
     cases hu:E.P.underlying t with
     | none=>simp [keyT,hu] at hk
     | some ty=>exact ⟨ty,rfl⟩
    obtain ⟨ty,hty⟩:=this
    unfold partT at hp
    rw [hty] at hp
    split at hp
    ·rw [Option.map_eq_none_iff] at hp; exact key_size hk hp
    ·rw [Option.map_eq_none_iff] at hp; exact key_size hk hp
    ·cases hp
    ·rename_i e; cases e
  cases x <;> simp only [isKey,bw] at hkx
  cases y <;> simp only [akey,akey1,reduceCtorEq] at hr
  split at hr
  ·rename_i hlen
   exact he μ w (some m) _ _ u v _ _ r hp' ⟨_,rfl⟩ ⟨_,rfl⟩ hx hy rfl rfl hlen hkx hr
  ·cases hr
theorem key_check {t:TypeId} {kn:KeyT} {x:AVal} {u:Value} (hk:keyT E.P t=some kn) (hx:VRel E μ x u) (hkx:isKey kn x=true) (em:Bool) (n:Nat) (w:World):(Instr.checkKey em (n+2) t u).run E.P w = .ok () w:=by
 have basic:∀ (n:Nat) (t:TypeId) (u:Value) (w:World),(E.P.underlying t=some .bool∨(∃ k,E.P.underlying t=some (.int k))∨E.P.underlying t=some .string)→(Instr.checkKey em (n+1) t u).run E.P w = .ok () w:=by
  intro n t u w ht
  rcases ht with ht | ⟨k,ht⟩ | ht <;> (unfold Instr.checkKey; simp [run_underlying ht])
 unfold keyT at hk
 split at hk
 ·cases hk
 split at hk <;> (try cases hk)
 ·rename_i ht; exact basic _ _ _ _ (.inl ht)
 ·rename_i k ht; exact basic _ _ _ _ (.inr (.inl ⟨_,ht⟩))
 ·rename_i ht; exact basic _ _ _ _ (.inr (.inr ht))
 ·rename_i fs ht
  rw [ae] at hk
  obtain ⟨l,hl,rfl⟩:=hk
  simp only [ckOf,ht] at hl
  split at hl
  ·cases hl
  cases x <;> simp only [isKey,bw] at hkx
  rename_i A
  simp only [VRel] at hx
  obtain ⟨xs,rfl,hA,hA1⟩:=hx
  rw [show n+2=(n+1)+1 from rfl,Instr.checkKey]
  simp only [Sem.run_bind,run_underlying ht,Result.andThen_ok]
  rw [← Array.forIn_toList]
  have key:∀ (fs:List Field) (off:Nat) (l:List CK),ckFields (ckOf E.P 1) E.P off fs=some l→areKeys l (A.drop off)=true →
    (forIn fs PUnit.unit fun f r=>do
     if f.name ≠ "_" then do
      let a ← Go.part f.type xs f.offset
      Instr.checkKey em (n+1) f.type a
      pure (ForInStep.yield PUnit.unit)
     else pure (ForInStep.yield PUnit.unit):Sem PUnit).run E.P w = .ok () w:=by
   intro fs
   induction fs with
   | nil=>intro off l _ _; simp
   | cons f fs ih =>
    intro off l hl hk
    simp only [ckFields] at hl
    split at hl
    case h_2=>cases hl
    rename_i l1 hl1
    split at hl
    case isFalse=>cases hl
    rename_i hh
    obtain ⟨ho,hn,hs,h0⟩:=hh
    rw [ae] at hl
    obtain ⟨l2,hl2,rfl⟩:=hl
    obtain ⟨k1,k2⟩:=ku hk
    have hkl:=iq hk
    simp only [fh,ap] at hkl
    obtain ⟨m,hm,hmk⟩:=ckOf_part hl1 hs
    obtain ⟨x,hx⟩:=part_at (cs:=A) (o:=off) hmk (by omega)
    obtain ⟨u,p1,_⟩:=part_rel w hm hA hA1 hx
    rw [← ho] at p1
    have hb:(Instr.checkKey em (n+1) f.type u).run E.P w = .ok () w:=by
     apply basic
     simp only [ckOf] at hl1
     split at hl1 <;> (try cases hl1)
     ·exact .inl (by assumption)
     ·exact .inr (.inl ⟨_,by assumption⟩)
     ·exact .inr (.inr (by assumption))
     ·rename_i fs2 hu
      split at hl1
      ·cases hl1
      ·cases hfs:fs2.toList with
       | nil=>rw [hfs] at hl1; simp [ckFields] at hl1; subst hl1; simp at h0
       | cons q qs=>rw [hfs] at hl1; simp [ckFields] at hl1
    simp only [List.forIn_cons,Sem.run_bind,hn,ne_eq,not_false_eq_true,if_true,p1,hb,Result.andThen_ok,Sem.run_pure]
    exact ih (off+l1.length) l2 hl2 (by rw [g9] at k2; exact k2)
  have:=key fs.toList 0 l hl (by simpa using hkx)
  have h2:∀ (S:Sem PUnit),S.run E.P w = .ok () w→(S.run E.P w).andThen (fun _ w'=>Result.ok () w') = .ok () w:=fun S h=>by rw [h]; rfl
  exact h2 _ (by simpa using this)
def Found (E:Env) (μ:MM) (i:Nat) (res:Option (Nat × AVal)) (r:Option (Nat × Value)):Prop :=
 match res,r with
 | none,none=>True
 | some (j,v),some (j',v')=>j'=i+j∧VRel E μ v v'
 | _,_=>False
def Entries (E:Env) (μ:MM) (es:List (AVal × AVal × Nat)) (l:List MapEntry):Prop :=
 l.length=es.length∧∀ (k:Nat) (x:AVal × AVal × Nat),es[k]? = some x→∃ y:MapEntry,l[k]? = some y∧VRel E μ x.1 y.key∧VRel E μ x.2.1 y.val∧y.born=x.2.2
theorem Entries.cons {x:AVal × AVal × Nat} {es:List (AVal × AVal × Nat)} {l:List MapEntry} (h:Entries E μ (x :: es) l):∃ y l',l=y :: l'∧VRel E μ x.1 y.key∧VRel E μ x.2.1 y.val∧Entries E μ es l':=by
 obtain ⟨h1,h2⟩:=h
 cases l with
 | nil=>simp at h1
 | cons y l =>
  obtain ⟨y',e,h3,h4,_⟩:=h2 0 x rfl
  simp at e; subst e
  exact ⟨y,l,rfl,h3,h4,by simpa using h1,fun k z hz=>by simpa using h2 (k+1) z (by simpa using hz)⟩
theorem key_cases {x y:AVal} {r:Bool} (h:akey x y=some r):(∃ a b,x = .str a∧y = .str b∧r=decide (a=b))∨(∃ k a b,x = .int k a∧y = .int k b∧r=decide (a=b))∨(∃ a b,x = .bool a∧y = .bool b∧r=decide (a=b))∨∃ a b,x = .agg a∧y = .agg b:=by
 unfold akey at h
 split at h
 ·exact .inr (.inr (.inr ⟨_,_,rfl,rfl⟩))
 ·unfold akey1 at h
  split at h
  ·cases h; exact .inl ⟨_,_,rfl,rfl,rfl⟩
  ·split at h
   ·rename_i e; subst e; cases h; exact .inr (.inl ⟨_,_,_,rfl,rfl,rfl⟩)
   ·cases h
  ·cases h; exact .inr (.inr (.inl ⟨_,_,rfl,rfl,rfl⟩))
  ·cases h
theorem sameNow_rel {d:TypeDesc} {x y:AVal} {u v:Value} {b r:Bool} (hx:VRel E μ x u) (hy:VRel E μ y v) (hs:Instr.sameNow d u v=some b) (hr:akey x y=some r):b=r:=by
 rcases key_cases hr with ⟨p,q,rfl,rfl,rfl⟩ | ⟨k,p,q,rfl,rfl,rfl⟩ | ⟨p,q,rfl,rfl,rfl⟩ | ⟨p,q,rfl,rfl⟩
 ·simp only [VRel] at hx hy; subst hx; subst hy
  cases d <;> simp only [Instr.sameNow,reduceCtorEq] at hs
  injection hs with hs
  rw [← hs,Bool.eq_iff_iff,MapKept.bytes_beq]; simp
 ·simp only [VRel] at hx hy; subst hx; subst hy
  cases d <;> simp only [Instr.sameNow,reduceCtorEq] at hs
  simp at hs
  rw [← hs,Bool.eq_iff_iff]; simp
 ·simp only [VRel] at hx hy; subst hx; subst hy
  cases d <;> simp only [Instr.sameNow,reduceCtorEq] at hs
  injection hs with hs
  rw [← hs,Bool.eq_iff_iff]; simp
 ·simp only [VRel] at hx hy
  obtain ⟨_,rfl,_⟩:=hx
  obtain ⟨_,rfl,_⟩:=hy
  cases d <;> simp [Instr.sameNow] at hs
theorem findNow_rel {d:TypeDesc} {x:AVal} {u:Value} (hx:VRel E μ x u):∀ {es:List (AVal × AVal × Nat)} {l:List MapEntry} {i:Nat} {res:Option (Nat × AVal)} {r:Option (Nat × Value)},Entries E μ es l→findA x es=some res→Instr.findNow d u l i=some r→Found E μ i res r
 | [],l,i,res,r,he,hf,hn=>by
  have:l=[]:=bo (by simpa using he.1)
  subst this
  simp only [findA] at hf; cases hf
  simp only [Instr.findNow] at hn; cases hn
  trivial
 | e :: es,l,i,res,r,he,hf,hn=>by
  obtain ⟨y,l',rfl,h1,h2,h3⟩:=he.cons
  simp only [findA] at hf
  simp only [Instr.findNow] at hn
  split at hn
  ·rename_i hs
   cases hn
   cases hk:akey x e.1 with
   | none=>rw [hk] at hf; cases hf
   | some q =>
    have:=sameNow_rel hx h1 hs hk
    subst this
    rw [hk] at hf
    simp only at hf; cases hf
    exact ⟨rfl,h2⟩
  ·rename_i hs
   cases hk:akey x e.1 with
   | none=>rw [hk] at hf; cases hf
   | some q =>
    have:=sameNow_rel hx h1 hs hk
    subst this
    rw [hk] at hf
    simp only at hf
    rw [ae] at hf
    obtain ⟨res',hf',rfl⟩:=hf
    have ih:=findNow_rel hx h3 hf' hn
    cases res' with
    | none=>cases r <;> exact ih
    | some p =>
     cases r with
     | none=>exact ih
     | some q=>exact ⟨by have:=ih.1; omega,ih.2⟩
  ·cases hn
theorem findAsking_rel {t:TypeId} {kn:KeyT} {x:AVal} {u:Value} (hk:keyT E.P t=some kn) (hx:VRel E μ x u) (hkx:isKey kn x=true) (w:World):∀ {es:List (AVal × AVal × Nat)} {l:List MapEntry} {i:Nat} {res:Option (Nat × AVal)},
  Entries E μ es l→findA x es=some res→∃ r,(Instr.findAsking t u l i).run E.P w = .ok r w∧Found E μ i res r
 | [],l,i,res,he,hf=>by
  have:l=[]:=bo (by simpa using he.1)
  subst this
  simp only [findA] at hf; cases hf
  exact ⟨none,by simp [Instr.findAsking],trivial⟩
 | e :: es,l,i,res,he,hf=>by
  obtain ⟨y,l',rfl,h1,h2,h3⟩:=he.cons
  simp only [findA] at hf
  cases hke:akey x e.1 with
  | none=>rw [hke] at hf; cases hf
  | some q =>
   have heq:=key_eq hk hx h1 hkx hke w
   rw [hke] at hf
   cases q with
   | true =>
    simp only at hf; cases hf
    exact ⟨some (i,y.val),by simp [Instr.findAsking,heq],rfl,h2⟩
   | false =>
    simp only at hf
    rw [ae] at hf
    obtain ⟨res',hf',rfl⟩:=hf
    obtain ⟨r,hr,ih⟩:=findAsking_rel hk hx hkx w (i:=i+1) h3 hf'
    refine ⟨r,by simp [Instr.findAsking,heq,hr],?_⟩
    cases res' with
    | none=>cases r <;> exact ih
    | some p =>
     cases r with
     | none=>exact ih
     | some q=>exact ⟨by have:=ih.1; omega,ih.2⟩
theorem iz {t:TypeId} {kn:KeyT} {x:AVal} {u:Value} (hk:keyT E.P t=some kn) (hx:VRel E μ x u) (hkx:isKey kn x=true) (w:World) {es:List (AVal × AVal × Nat)} {l:List MapEntry} {res:Option (Nat × AVal)}
  (he:Entries E μ es l) (hf:findA x es=some res):∃ r,(Instr.findKey t u l).run E.P w = .ok r w∧Found E μ 0 res r:=by
 have hu:∃ d,E.P.underlying t=some d:=by
  cases hu:E.P.underlying t with
  | none=>simp [keyT,hu] at hk
  | some ty=>exact ⟨ty,rfl⟩
 obtain ⟨d,hd⟩:=hu
 cases hn:Instr.findNow d u l 0 with
 | some r=>exact ⟨r,MapKept.run_findKey hd hn,findNow_rel hx he hf hn⟩
 | none =>
  obtain ⟨r,hr,h2⟩:=findAsking_rel hk hx hkx w (i:=0) he hf
  exact ⟨r,by simp [Instr.findKey,run_underlying hd,Result.andThen,hn,hr],h2⟩
theorem akey1_true {x y:AVal} (h:akey1 x y=some true):x=y∧(∃ c:CK,c.is x=true):=by
 unfold akey1 at h
 split at h
 ·simp at h; exact ⟨by rw [h],.s,rfl⟩
 ·split at h
  ·rename_i e; subst e; simp at h; exact ⟨by rw [h],.i,rfl⟩
  ·cases h
 ·simp at h; exact ⟨by rw [h],.b,rfl⟩
 ·cases h
theorem akeyL_true:∀ {as bs:List AVal},akeyL as bs=some true→as=bs∧∀ x ∈ as,∃ c:CK,c.is x=true
 | [],[],_=>⟨rfl,by simp⟩
 | a :: as,b :: bs,h=>by
  simp only [akeyL] at h
  split at h
  ·rename_i h1
   obtain ⟨rfl,h2⟩:=akey1_true h1
   obtain ⟨rfl,h3⟩:=akeyL_true h
   exact ⟨rfl,fun x hx=>by
    rcases c9.1 hx with rfl | hx
    ·exact h2
    ·exact h3 x hx⟩
  ·cases h
  ·cases h
 | [],_ :: _,h=>by simp [akeyL] at h
 | _ :: _,[],h=>by simp [akeyL] at h
theorem key_val {x:AVal} {u v:Value} (hc:∃ c:CK,c.is x=true) (hu:VRel E μ x u) (hv:VRel E μ x v):u=v∧∀ n,Instr.sameBits n u u=true:=by
 obtain ⟨c,hc⟩:=hc
 cases x <;> cases c <;> simp only [CK.is,bw] at hc <;> (simp only [VRel] at hu hv; subst hu; subst hv; refine ⟨rfl,fun n=>?_⟩; cases n <;> simp [Instr.sameBits,MapKept.bytes_beq])
theorem keys_val:∀ {as:List AVal} {l r:List Value},(∀ x ∈ as,∃ c:CK,c.is x=true)→VRels E μ as l→VRels E μ as r→l=r∧∀ u ∈ l,∀ n,Instr.sameBits n u u=true
 | [],l,r,_,h1,h2=>by
  simp only [VRels] at h1 h2; subst h1; subst h2
  exact ⟨rfl,by simp⟩
 | a :: as,l,r,h,h1,h2=>by
  simp only [VRels] at h1 h2
  obtain ⟨u,l,rfl,h3,h4⟩:=h1
  obtain ⟨v,r,rfl,h5,h6⟩:=h2
  obtain ⟨rfl,h7⟩:=key_val (h a (a7 ..)) h3 h5
  obtain ⟨rfl,h8⟩:=keys_val (fun x hx=>h x (bd _ hx)) h4 h6
  exact ⟨rfl,fun z hz=>by
   rcases c9.1 hz with rfl | hz
   ·exact h7
   ·exact h8 z hz⟩
theorem run_stays {x y:AVal} {u v:Value} (h:akey x y=some true) (hx:VRel E μ x u) (hy:VRel E μ y v) (w:World):(Instr.keyThatStays v u).run E.P w = .ok u w:=by
 have:Instr.sameBits 10000 v u=true:=by
  unfold akey at h
  split at h
  ·split at h
   ·obtain ⟨rfl,h1⟩:=akeyL_true h
    simp only [VRel] at hx hy
    obtain ⟨a,rfl,h2,_⟩:=hx
    obtain ⟨b,rfl,h3,_⟩:=hy
    obtain ⟨e,h4⟩:=keys_val h1 h2 h3
    have e':a=b:=Array.toList_inj.1 e
    subst e'
    have hall:(a.toList.zip a.toList).all (fun (x,y)=>Instr.sameBits 9999 x y)=true:=by
     rw [al]
     rintro ⟨p,q⟩ hpq
     have:p=q∧p ∈ a.toList:=by
      obtain ⟨k,hk⟩:=fk hpq
      rw [List.getElem?_zip_eq_some] at hk
      obtain ⟨k1,k2⟩:=hk
      simp only at k1 k2
      rw [k1] at k2
      exact ⟨bz k2,bn k1⟩
     obtain ⟨rfl,hp⟩:=this
     exact h4 p hp 9999
    show (a.size == a.size && _)=true
    rw [hall]; simp
   ·cases h
  ·obtain ⟨rfl,h1⟩:=akey1_true h
   obtain ⟨rfl,h2⟩:=key_val h1 hx hy
   exact h2 10000
 simp [Instr.keyThatStays,this]
theorem findA_get {x:AVal}:∀ {es:List (AVal × AVal × Nat)} {j:Nat} {v:AVal},findA x es=some (some (j,v))→∃ e,es[j]? = some e∧akey x e.1=some true
 | [],j,v,h=>by simp [findA] at h
 | e :: es,j,v,h=>by
  simp only [findA] at h
  split at h
  ·rename_i hk; cases h; exact ⟨e,rfl,hk⟩
  ·rw [ae] at h
   obtain ⟨r,h1,h2⟩:=h
   cases r with
   | none=>simp at h2
   | some p =>
    obtain ⟨j',v'⟩:=p
    simp at h2
    obtain ⟨rfl,rfl⟩:=h2
    obtain ⟨e',h3,h4⟩:=findA_get h1
    exact ⟨e',by simpa using h3,h4⟩
  ·cases h
theorem run_zeroA {P:Program} {t:TypeId} {z:AVal} (hz:zeroA P t=some z) (μ:MM) (w:World):∃ v,(zeroValue t).run P w = .ok v w∧VRel E μ z v:=by
 unfold zeroA at hz
 split at hz
 case h_2=>cases hz
 rename_i i hi
 split at hz
 case h_2=>cases hz
 rename_i v hv
 exact ⟨v,by simp [zeroValue,typeInfo,hi,hv],toA_rel hz μ⟩
theorem map_obj (hr:Rel E μ h w) {r:Nat} {es:List (AVal × AVal × Nat)} {c:Nat} (hg:h.get r=some (.map es c)):∃ (m:M) (es':Array MapEntry),μ[r]? = some (some m)∧w.heap[m.blk]? = some (.map es' c)∧Entries E μ es es'.toList:=by
 obtain ⟨m,es',h1,h2,h3,h4⟩:=hr.obj r _ hg
 exact ⟨m,es',h1,h2,by simpa using h3,fun k x hk=>by obtain ⟨y,y1,y2⟩:=h4 k x hk; exact ⟨y,by simpa using y1,y2⟩⟩
theorem map_at {r:Nat} {u:Value} {m:M} (hx:VRel E μ (.map (some r)) u) (hm:μ[r]? = some (some m)):u = .map (some m.blk):=by
 simp only [VRel] at hx
 obtain ⟨b,x,rfl,h1,h2⟩:=hx
 rw [hm] at h1; cases h1
 rw [h2 m rfl]
theorem lookup_rel (hr:Rel E μ h w) {t k e:TypeId} {kn:KeyT} {z:AVal} {ok:Bool} {x y v:AVal} {u i:Value} {h':Heap} (ht:E.P.underlying t=some (.map k e)) (hk:keyT E.P k=some kn) (hz:zeroA E.P e=some z) (hx:VRel E μ x u) (hy:VRel E μ y i)
  (he:evExt (.lookup kn z ok) [x,y] h=some (v,h')):h'=h∧∃ r,(Instr.lookup t u i ok).run E.P w = .ok r w∧VRel E μ v r:=by
 simp only [evExt] at he
 split at he
 case isFalse=>cases he
 rename_i hkey
 split at he
 case h_2=>cases he
 rename_i es hes
 have hent:∃ l:Array MapEntry,Entries E μ es l.toList∧((u = .map none∧l = #[])∨∃ b c,u = .map (some b)∧w.heap[b]? = some (.map l c)):=by
  unfold entriesOf at hes
  split at hes
  ·cases hes
   simp only [VRel] at hx
   exact ⟨#[],⟨rfl,by simp⟩,.inl ⟨hx,rfl⟩⟩
  ·rename_i r
   split at hes
   ·rename_i es0 c hg
    cases hes
    obtain ⟨m,es',h1,h2,h3⟩:=map_obj hr hg
    exact ⟨es',h3,.inr ⟨_,_,map_at hx h1,h2⟩⟩
   ·cases hes
  ·cases hes
 obtain ⟨l,hl,hu⟩:=hent
 have hchk:=key_check hk hy hkey l.isEmpty 9998 w
 split at he
 ·rename_i j v0 hf
  cases he
  refine ⟨rfl,?_⟩
  obtain ⟨r,hr1,hr2⟩:=iz hk hy hkey w hl hf
  cases r with
  | none=>exact hr2.elim
  | some p =>
   refine ⟨if ok then .tuple #[p.2,.bool true] else p.2,?_,?_⟩
   ·rcases hu with ⟨rfl,rfl⟩ | ⟨b,c,rfl,hb⟩
    ·simp at hchk hr1
     simp [Instr.lookup,run_underlying ht,hchk,hr1]
    ·simp at hchk hr1
     simp [Instr.lookup,run_underlying ht,MapKept.run_getObj_map hb,hchk,hr1]
   ·cases ok with
    | true=>simp only [if_true,VRel]; exact ⟨_,rfl,by simp [VRels,VRel,hr2.2]⟩
    | false=>simpa using hr2.2
 ·rename_i hf
  cases he
  refine ⟨rfl,?_⟩
  obtain ⟨r,hr1,hr2⟩:=iz hk hy hkey w hl hf
  obtain ⟨zv,hz1,hz2⟩:=run_zeroA (E:=E) hz μ w
  cases r with
  | some p=>exact hr2.elim
  | none =>
   refine ⟨if ok then .tuple #[zv,.bool false] else zv,?_,?_⟩
   ·rcases hu with ⟨rfl,rfl⟩ | ⟨b,c,rfl,hb⟩
    ·simp at hchk hr1
     simp [Instr.lookup,run_underlying ht,hchk,hr1,hz1]
    ·simp at hchk hr1
     simp [Instr.lookup,run_underlying ht,MapKept.run_getObj_map hb,hchk,hr1,hz1]
   ·cases ok with
    | true=>simp only [if_true,VRel]; exact ⟨_,rfl,by simp [VRels,VRel,hz2]⟩
    | false=>simpa using hz2
 ·cases he
theorem map_put (hf:FRel E lo ν μ (sget s) a.tmps w) (hr:Rel E μ h w) {dst:Option Tmp} {rr:Result Next} (hd:∀ x,dst=some x→x < a.tmps.size) {r:Nat} {m:M} {es:List (AVal × AVal × Nat)} {es' l:Array MapEntry} {c c0:Nat}
  (hb:h.base≤r) (hm:μ[r]? = some (some m)) (_hblk:w.heap[m.blk]? = some (.map l c0)) (hes:Entries E μ es es'.toList)
  (hrun:rr = .ok .skip (withBlock w m.blk (.map es' c))∨rr = .ok (.value (.tuple #[])) (withBlock w m.blk (.map es' c))) :
  OpDone E lo ν.ds μ w a dst rr (.val (.tuple [])) s (h.put r (.map es c)):=by
 have hlt:=hr.lt r m hm
 refine ⟨Go.undef,withBlock w m.blk (.map es' c),μ,ν,rfl,?_,Step.put hm (ed _ _) _,hr.put hb hm ?_,?_⟩
 ·rcases hrun with h1 | h1
  ·exact .inr ⟨rfl,h1⟩
  ·exact .inl h1
 ·exact ⟨m,es',hm,ex hlt,by simpa using hes.1,fun k x hk=>by obtain ⟨y,y1,y2⟩:=hes.2 k x hk; exact ⟨y,by simpa using y1,y2⟩⟩
 ·rw [fz]
  refine FRel.setVal ?_ hd (by simp only [VRel]; exact ⟨#[],rfl,by simp [VRels]⟩)
  exact hf.keep (Later.refl _) (fun t cs' hv=>bf (hf.sepm t cs' r m hv hm)) (fun t cs' j m' _ hj hm=>absurd (ah hm) (by omega)) fun q hq=>⟨bf ((hf.sepd q hq).1 r m hm),fun j m' hj hm=>absurd (ah hm) (by omega)⟩
theorem mapupd_done (hf:FRel E lo ν μ (sget s) a.tmps w) (hr:Rel E μ h w) {dst:Option Tmp} {rr:Result Next} (hd:∀ x,dst=some x→x < a.tmps.size) {t k e:TypeId} {kn:KeyT} {x y z v:AVal} {u i p:Value} {h':Heap}
  (ht:E.P.underlying t=some (.map k e)) (hk:keyT E.P k=some kn) (hx:VRel E μ x u) (hy:VRel E μ y i) (hz:VRel E μ z p) (he:evExt (.mapupd kn) [x,y,z] h=some (v,h'))
  (hrun:rr=((Instr.mapUpdate t u i p).run E.P w).andThen fun _ w'=>.ok .skip w'):OpDone E lo ν.ds μ w a dst rr (.val v) s h':=by
 cases x <;> simp only [evExt,reduceCtorEq] at he
 rename_i q
 cases q with
 | none=>cases he
 | some r =>
  simp only at he
  split at he
  case isFalse=>cases he
  rename_i hh
  obtain ⟨hkey,hb⟩:=hh
  split at he
  case h_2=>cases he
  rename_i es c hg
  obtain ⟨m,l,h1,h2,h3⟩:=map_obj hr hg
  have hu:=map_at hx h1
  subst hu
  have hchk:=key_check hk hy hkey false 9998 w
  split at he
  ·rename_i j v0 hfd
   cases he
   obtain ⟨q,hr1,hr2⟩:=iz hk hy hkey w h3 hfd
   cases q with
   | none=>exact hr2.elim
   | some q =>
    obtain ⟨j',v'⟩:=q
    obtain ⟨rfl,_⟩:=hr2
    obtain ⟨e0,g1,g2⟩:=findA_get hfd
    obtain ⟨y0,g3,g4,g5,g6⟩:=h3.2 _ _ g1
    have hst:=run_stays g2 hy g4 w
    have g3':l[j]? = some y0:=by simpa using g3
    refine map_put (c:=c) (es':=l.modify j fun x=>{ x with key:=i,val:=p }) hf hr hd hb h1 h2 ⟨?_,fun k' x' hk'=>?_⟩ (.inl ?_)
    ·simp [h3.1]
    ·rw [List.getElem?_modify] at hk'
     by_cases ej:j=k'
     ·subst ej
      rw [g1] at hk'
      simp at hk'
      subst hk'
      refine ⟨{ y0 with key:=i,val:=p },?_,hy,hz,g6⟩
      simp [g3']
     ·have hk'':es[k']? = some x':=by
       cases hq:es[k']? with
       | none=>rw [hq] at hk'; simp at hk'
       | some z0=>rw [hq] at hk'; simp [ej] at hk'; rw [hk']
      obtain ⟨y1,q1,q2⟩:=h3.2 _ _ hk''
      refine ⟨y1,?_,q2⟩
      have q1':l[k']? = some y1:=by simpa using q1
      simp [ej,q1']
    ·rw [hrun]
     simp [Instr.mapUpdate,run_underlying ht,MapKept.run_getObj_map h2,hchk,hr1,g3',hst,MapKept.run_setObj_map _ h2]
     rfl
  ·rename_i hfd
   cases he
   obtain ⟨q,hr1,hr2⟩:=iz hk hy hkey w h3 hfd
   cases q with
   | some q=>exact hr2.elim
   | none =>
    refine map_put (c:=c+1) (es':=l.push { key:=i,val:=p,born:=c }) hf hr hd hb h1 h2 ⟨?_,fun k' x' hk'=>?_⟩ (.inl ?_)
    ·have:=h3.1; simp at this ⊢; exact this
    ·have hl:=h3.1
     simp at hl
     rcases a8 k' es.length with hlt | hge
     ·rw [ag hlt] at hk'
      obtain ⟨y1,q1,q2⟩:=h3.2 _ _ hk'
      refine ⟨y1,?_,q2⟩
      have q1':l[k']? = some y1:=by simpa using q1
      rw [jf,de,if_neg (by omega)]
      exact q1'
     ·rw [au hge] at hk'
      have h0:k'=es.length:=by
       have:=ah hk'
       simp at this; omega
      subst h0
      simp at hk'
      subst hk'
      exact ⟨{ key:=i,val:=p,born:=c },by simp [hl],hy,hz,rfl⟩
    ·rw [hrun]
     simp [Instr.mapUpdate,run_underlying ht,MapKept.run_getObj_map h2,hchk,hr1,MapKept.run_setObj_map _ h2]
     rfl
  ·cases he
theorem map_putV (hf:FRel E lo ν μ (sget s) a.tmps w) (hr:Rel E μ h w) {dst:Option Tmp} {rr:Result Next} (hd:∀ x,dst=some x→x < a.tmps.size) {r:Nat} {m:M} {es:List (AVal × AVal × Nat)} {es' l:Array MapEntry} {c c0:Nat} {v:AVal} {u:Value}
  (hb:h.base≤r) (hm:μ[r]? = some (some m)) (_hblk:w.heap[m.blk]? = some (.map l c0)) (hes:Entries E μ es es'.toList) (hv:VRel E μ v u)
  (hrun:rr = .ok (.value u) (withBlock w m.blk (.map es' c))) :
  OpDone E lo ν.ds μ w a dst rr (.val v) s (h.put r (.map es c)):=by
 have hlt:=hr.lt r m hm
 refine ⟨u,withBlock w m.blk (.map es' c),μ,ν,rfl,.inl hrun,Step.put hm (ed _ _) _,hr.put hb hm ?_,?_⟩
 ·exact ⟨m,es',hm,ex hlt,by simpa using hes.1,fun k x hk=>by obtain ⟨y,y1,y2⟩:=hes.2 k x hk; exact ⟨y,by simpa using y1,y2⟩⟩
 ·rw [fz]
  refine FRel.setVal ?_ hd hv
  exact hf.keep (Later.refl _) (fun t cs' hv=>bf (hf.sepm t cs' r m hv hm)) (fun t cs' j m' _ hj hm=>absurd (ah hm) (by omega)) fun q hq=>⟨bf ((hf.sepd q hq).1 r m hm),fun j m' hj hm=>absurd (ah hm) (by omega)⟩
theorem mapentry_done (hf:FRel E lo ν μ (sget s) a.tmps w) (hr:Rel E μ h w) {dst:Option Tmp} {rr:Result Next} (hd:∀ x,dst=some x→x < a.tmps.size) {t k e:TypeId} {kn:KeyT} {x y z v:AVal} {u i:Value} {h':Heap}
  (ht:E.P.underlying t=some (.map k e)) (hk:keyT E.P k=some kn) (hz:zeroA E.P e=some z) (hx:VRel E μ x u) (hy:VRel E μ y i) (he:evExt (.mapentry kn z) [x,y] h=some (v,h'))
  (hrun:rr=((Instr.mapEntry t u i).run E.P w).andThen fun v w'=>.ok (.value v) w'):OpDone E lo ν.ds μ w a dst rr (.val v) s h':=by
 cases x <;> simp only [evExt,reduceCtorEq] at he
 rename_i q
 cases q with
 | none=>cases he
 | some r =>
  simp only at he
  split at he
  case isFalse=>cases he
  rename_i hh
  obtain ⟨hkey,hb⟩:=hh
  split at he
  case h_2=>cases he
  rename_i es c hg
  obtain ⟨m,l,h1,h2,h3⟩:=map_obj hr hg
  have hu:=map_at hx h1
  subst hu
  have hchk:=key_check hk hy hkey false 9998 w
  split at he
  ·rename_i j v0 hfd
   cases he
   obtain ⟨q,hr1,hr2⟩:=iz hk hy hkey w h3 hfd
   cases q with
   | none=>exact hr2.elim
   | some q =>
    obtain ⟨j',v'⟩:=q
    obtain ⟨rfl,hvv⟩:=hr2
    obtain ⟨e0,g1,g2⟩:=findA_get hfd
    obtain ⟨y0,g3,g4,g5,g6⟩:=h3.2 _ _ g1
    have hst:=run_stays g2 hy g4 w
    have g3':l[j]? = some y0:=by simpa using g3
    refine map_putV (c:=c) (es':=l.modify j fun x=>{ x with key:=i }) (u:=.tuple #[v',goInt y0.born]) hf hr hd hb h1 h2 ⟨?_,fun k' x' hk'=>?_⟩ ?_ ?_
    ·simp [h3.1]
    ·rw [List.getElem?_modify] at hk'
     by_cases ej:j=k'
     ·subst ej
      rw [g1] at hk'
      simp at hk'
      subst hk'
      refine ⟨{ y0 with key:=i },?_,hy,g5,g6⟩
      simp [g3']
     ·have hk'':es[k']? = some x':=by
       cases hq:es[k']? with
       | none=>rw [hq] at hk'; simp at hk'
       | some z0=>rw [hq] at hk'; simp [ej] at hk'; rw [hk']
      obtain ⟨y1,q1,q2⟩:=h3.2 _ _ hk''
      refine ⟨y1,?_,q2⟩
      have q1':l[k']? = some y1:=by simpa using q1
      simp [ej,q1']
    ·simp only [VRel]
     refine ⟨_,rfl,?_⟩
     simp [VRels,VRel,hvv,g1,g6,goInt]
    ·rw [hrun]
     simp [Instr.mapEntry,run_underlying ht,MapKept.run_getObj_map h2,hchk,hr1,g3',hst,MapKept.run_setObj_map _ h2]
     rfl
  ·rename_i hfd
   cases he
   obtain ⟨q,hr1,hr2⟩:=iz hk hy hkey w h3 hfd
   obtain ⟨zv,hz1,hz2⟩:=run_zeroA (E:=E) hz μ w
   cases q with
   | some q=>exact hr2.elim
   | none =>
    refine map_putV (c:=c+1) (es':=l.push { key:=i,val:=zv,born:=c }) (u:=.tuple #[zv,goInt c]) hf hr hd hb h1 h2 ⟨?_,fun k' x' hk'=>?_⟩ ?_ ?_
    ·have:=h3.1; simp at this ⊢; exact this
    ·have hl:=h3.1
     simp at hl
     rcases a8 k' es.length with hlt | hge
     ·rw [ag hlt] at hk'
      obtain ⟨y1,q1,q2⟩:=h3.2 _ _ hk'
      refine ⟨y1,?_,q2⟩
      have q1':l[k']? = some y1:=by simpa using q1
      rw [jf,de,if_neg (by omega)]
      exact q1'
     ·rw [au hge] at hk'
      have h0:k'=es.length:=by
       have:=ah hk'
       simp at this; omega
      subst h0
      simp at hk'
      subst hk'
      exact ⟨{ key:=i,val:=zv,born:=c },by simp [hl],hy,hz2,rfl⟩
    ·simp only [VRel]
     refine ⟨_,rfl,?_⟩
     simp [VRels,VRel,hz2,goInt]
    ·rw [hrun]
     simp [Instr.mapEntry,run_underlying ht,MapKept.run_getObj_map h2,hchk,hr1,hz1,MapKept.run_setObj_map _ h2]
     rfl
  ·cases he
theorem entries_find {st:Int}:∀ {es:List (AVal × AVal × Nat)} {l:List MapEntry},Entries E μ es l→l.findIdx? (fun e=>((e.born:Nat):Int) == st)=es.findIdx? (fun e=>((e.2.2:Nat):Int) == st)
 | [],l,h=>by
  have:l=[]:=bo h.1
  subst this; rfl
 | x :: es,l,h=>by
  obtain ⟨_,hh⟩:=h
  obtain ⟨y,l',rfl,h1,h2,h3⟩:=Entries.cons ⟨by assumption,hh⟩
  obtain ⟨y',e1,_,_,e2⟩:=hh 0 x rfl
  simp at e1
  subst e1
  rw [List.findIdx?_cons,List.findIdx?_cons,e2,entries_find h3]
theorem entrystore_done (hf:FRel E lo ν μ (sget s) a.tmps w) (hr:Rel E μ h w) {dst:Option Tmp} {rr:Result Next} (hd:∀ x,dst=some x→x < a.tmps.size) {t:TypeId} {x y z v:AVal} {u i p:Value} {h':Heap}
  (hx:VRel E μ x u) (hy:VRel E μ y i) (hz:VRel E μ z p) (he:evExt .entrystore [x,y,z] h=some (v,h'))
  (hrun:rr=((Instr.entryStore t u i p).run E.P w).andThen fun _ w'=>.ok .skip w'):OpDone E lo ν.ds μ w a dst rr (.val v) s h':=by
 have hsh:∃ r st,x = .map (some r)∧y = .int .i64 st:=by
  unfold evExt at he
  split at he <;> simp_all
 obtain ⟨r,st,rfl,rfl⟩:=hsh
 simp only [evExt] at he
 split at he
 case isFalse=>cases he
 rename_i hb
 split at he
 case h_2=>cases he
 rename_i es c hg
 obtain ⟨m,l,h1,h2,h3⟩:=map_obj hr hg
 have hu:=map_at hx h1
 subst hu
 have hi:i = .int .i64 st:=by simpa only [VRel] using hy
 subst hi
 split at he
 case h_2=>cases he
 rename_i j hj
 cases he
 have hj':l.findIdx? (fun e=>((e.born:Nat):Int) == st)=some j:=by
  have:=entries_find (st:=st) h3
  rw [hj] at this
  rw [← this]
  obtain ⟨l⟩:=l
  simp
 have hjl:j < es.length:=by
  have:=List.findIdx?_eq_some_iff_getElem.1 hj
  exact this.1
 obtain ⟨e0,g1⟩:∃ e0,es[j]? = some e0:=⟨_,aj hjl⟩
 obtain ⟨y0,g3,g4,g5,g6⟩:=h3.2 _ _ g1
 have g3':l[j]? = some y0:=by simpa using g3
 refine map_put (c:=c) (es':=l.modify j fun x=>{ x with val:=p }) hf hr hd hb h1 h2 ⟨?_,fun k' x' hk'=>?_⟩ (.inl ?_)
 ·simp [h3.1]
 ·rw [List.getElem?_modify] at hk'
  by_cases ej:j=k'
  ·subst ej
   rw [g1] at hk'
   simp at hk'
   subst hk'
   refine ⟨{ y0 with val:=p },?_,g4,hz,g6⟩
   simp [g3']
  ·have hk'':es[k']? = some x':=by
    cases hq:es[k']? with
    | none=>rw [hq] at hk'; simp at hk'
    | some z0=>rw [hq] at hk'; simp [ej] at hk'; rw [hk']
   obtain ⟨y1,q1,q2⟩:=h3.2 _ _ hk''
   refine ⟨y1,?_,q2⟩
   have q1':l[k']? = some y1:=by simpa using q1
   simp [ej,q1']
 ·rw [hrun]
  simp [Instr.entryStore,asInt,asIntOf,MapKept.run_getObj_map h2,hj',MapKept.run_setObj_map _ h2]
  rfl
theorem delete_done (hf:FRel E lo ν μ (sget s) a.tmps w) (hr:Rel E μ h w) {dst:Option Tmp} {rr:Result Next} (hd:∀ x,dst=some x→x < a.tmps.size) {t k e:TypeId} {ts:Array TypeId} {ty:TypeId} {kn:KeyT} {x y v:AVal} {u i:Value} {h':Heap}
  (hts:ts[0]? = some t) (ht:E.P.underlying t=some (.map k e)) (hk:keyT E.P k=some kn) (hx:VRel E μ x u) (hy:VRel E μ y i) (he:evExt (.delete kn) [x,y] h=some (v,h'))
  (hrun:rr=((Builtin.delete_ ts ty #[u,i]).run E.P w).andThen fun v w'=>.ok (.value v) w'):OpDone E lo ν.ds μ w a dst rr (.val v) s h':=by
 cases x <;> simp only [evExt,reduceCtorEq] at he
 rename_i q
 cases q with
 | none =>
  simp only at he
  split at he
  case isFalse=>cases he
  rename_i hkey
  cases he
  simp only [VRel] at hx; subst hx
  have hchk:=key_check hk hy hkey true 9998 w
  refine cz hf hr hd (v:=.tuple #[]) ?_ (by simp only [VRel]; exact ⟨#[],rfl,by simp [VRels]⟩)
  rw [hrun]
  simp [Builtin.delete_,hts,run_underlying ht,hchk]
 | some r =>
  simp only at he
  split at he
  case isFalse=>cases he
  rename_i hh
  obtain ⟨hkey,hb⟩:=hh
  split at he
  case h_2=>cases he
  rename_i es c hg
  obtain ⟨m,l,h1,h2,h3⟩:=map_obj hr hg
  have hu:=map_at hx h1
  subst hu
  have hchk:=key_check hk hy hkey l.isEmpty 9998 w
  split at he
  ·rename_i j v0 hfd
   cases he
   obtain ⟨q,hr1,hr2⟩:=iz hk hy hkey w h3 hfd
   cases q with
   | none=>exact hr2.elim
   | some q =>
    obtain ⟨j',v'⟩:=q
    obtain ⟨rfl,_⟩:=hr2
    obtain ⟨e0,g1,_⟩:=findA_get hfd
    have hl:=h3.1
    simp at hl
    have hj:j < l.size:=by rw [hl]; exact ah g1
    refine map_put (c:=c) (es':=l.eraseIdxIfInBounds j) hf hr hd hb h1 h2 ⟨?_,fun k' x' hk'=>?_⟩ (.inr ?_)
    ·simp [Array.eraseIdxIfInBounds,hj,List.length_eraseIdx,← hl]
    ·rw [List.getElem?_eraseIdx] at hk'
     simp only [Array.eraseIdxIfInBounds,hj,dif_pos,Array.toList_eraseIdx,List.getElem?_eraseIdx]
     split at hk'
     ·rename_i hlt; rw [if_pos hlt]; exact h3.2 _ _ hk'
     ·rename_i hlt; rw [if_neg hlt]; exact h3.2 _ _ hk'
    ·rw [hrun]
     simp [Builtin.delete_,hts,run_underlying ht,MapKept.run_getObj_map h2,hchk,hr1,MapKept.run_setObj_map _ h2]
     rfl
  ·rename_i hfd
   cases he
   obtain ⟨q,hr1,hr2⟩:=iz hk hy hkey w h3 hfd
   cases q with
   | some q=>exact hr2.elim
   | none =>
    have hsame:({ w with heap:=w.heap.setIfInBounds m.blk (.map l c) }:World)=w:=by
     congr 1
     apply Array.ext_getElem?
     intro k'
     by_cases e:m.blk=k'
     ·subst e
      rw [h2]
      have:=hr.lt _ _ h1
      simp [this]
     ·rw [co e]
    refine cz hf hr hd (v:=.tuple #[]) ?_ (by simp only [VRel]; exact ⟨#[],rfl,by simp [VRels]⟩)
    rw [hrun]
    simp [Builtin.delete_,hts,run_underlying ht,MapKept.run_getObj_map h2,hchk,hr1,MapKept.run_setObj_map _ h2,hsame]
  ·cases he
end
end Go.Abs

namespace Go.Abs
section
variable {E:Env} {lo:Nat} {ν:Fr} {μ:MM} {s:Slots} {h:Heap} {a:Act} {w:World}
theorem kh {P:Program} {S:Sem Value} {v:Value} {w w':World} (hS:S.run P w = .ok v w'):(do pure (Next.value (← S)):Sem Next).run P w = .ok (.value v) w':=by
 simp [hS]
def plainEq:Value→Bool
 | .bool _ | .pointer _ | .slice _ _ _ | .map _ | .func _ _ _ | .nilFunc=>true
 | _=>false
def kindIs (k:NilKind) (d:TypeDesc):Prop :=
 match k with
 | .ptr=>∃ e,d = .pointer e
 | .slice=>∃ e,d = .slice e
 | .map=>∃ a b,d = .map a b
 | .func=>∃ a b c,d = .func a b c
theorem eqNil_rel {P:Program} {k:NilKind} {x y:AVal} {u v:Value} {d:TypeDesc} {t:TypeId} {b:Bool} (w:World) (hx:VRel E μ x u) (hy:VRel E μ y v) (ht:P.underlying t=some d)
  (hk:kindIs k d) (h:aEqNil k x y=some b):plainEq u=true∧(Op.equal t u v).run P w = .ok b w:=by
 suffices plainEq u=true∧∀ n:Nat,(Op.equalIn (n+1) t u v).run P w = .ok b w from ⟨this.1,this.2 9999⟩
 unfold aEqNil at h
 split at h <;> (try cases h)
 ·obtain ⟨e,rfl⟩:=hk
  simp only [VRel] at hx; subst hx
  refine ⟨rfl,fun n=>?_⟩
  rename_i p
  cases p with
  | none=>simp only [VRel] at hy; subst hy; simp [Op.equalIn,run_underlying ht]
  | some p=>simp only [VRel] at hy; obtain ⟨_,rfl,_⟩:=hy; simp [Op.equalIn,run_underlying ht]
 ·obtain ⟨e,rfl⟩:=hk
  simp only [VRel] at hx hy
  obtain ⟨_,rfl,_⟩:=hx; subst hy
  exact ⟨rfl,fun n=>by simp [Op.equalIn,run_underlying ht]⟩
 ·obtain ⟨e,rfl⟩:=hk
  simp only [VRel] at hx
  obtain ⟨_,_,rfl⟩:=hx
  refine ⟨rfl,fun n=>?_⟩
  rename_i p _ _ _ _
  cases p with
  | none=>simp only [VRel] at hy; obtain ⟨_,_,rfl⟩:=hy; simp [Op.equalIn,run_underlying ht]
  | some p=>simp only [VRel] at hy; obtain ⟨_,_,rfl,_⟩:=hy; simp [Op.equalIn,run_underlying ht]
 ·obtain ⟨e,rfl⟩:=hk
  simp only [VRel] at hx hy
  obtain ⟨_,_,rfl,_⟩:=hx; obtain ⟨_,_,rfl⟩:=hy
  exact ⟨rfl,fun n=>by simp [Op.equalIn,run_underlying ht]⟩
 ·obtain ⟨e,e',rfl⟩:=hk
  simp only [VRel] at hx; subst hx
  refine ⟨rfl,fun n=>?_⟩
  rename_i p
  cases p with
  | none=>simp only [VRel] at hy; subst hy; simp [Op.equalIn,run_underlying ht]
  | some p=>simp only [VRel] at hy; obtain ⟨_,_,rfl,_⟩:=hy; simp [Op.equalIn,run_underlying ht]
 ·obtain ⟨e,e',rfl⟩:=hk
  simp only [VRel] at hx hy
  obtain ⟨_,_,rfl,_⟩:=hx; subst hy
  exact ⟨rfl,fun n=>by simp [Op.equalIn,run_underlying ht]⟩
 ·obtain ⟨e,e',e'',rfl⟩:=hk
  simp only [VRel] at hx hy; subst hx; subst hy
  exact ⟨rfl,fun n=>by simp [Op.equalIn,run_underlying ht]⟩
 ·obtain ⟨e,e',e'',rfl⟩:=hk
  simp only [VRel] at hx hy; subst hx
  obtain ⟨_,_,_,rfl,_⟩:=hy
  exact ⟨rfl,fun n=>by simp [Op.equalIn,run_underlying ht]⟩
 ·obtain ⟨e,e',e'',rfl⟩:=hk
  simp only [VRel] at hx hy; subst hy
  obtain ⟨_,_,_,rfl,_⟩:=hx
  exact ⟨rfl,fun n=>by simp [Op.equalIn,run_underlying ht]⟩
theorem run_eq {P:Program} {neg:Bool} {t:TypeId} {u v:Value} {b:Bool} (hu:plainEq u=true) (x y:Operand) (he:(Op.equal t u v).run P w = .ok b w) :
  (do eqGuard (if neg then .neq else .eql) t x y u v; binOp (if neg then .neq else .eql) t u v:Sem Value).run P w = .ok (.bool (if neg then !b else b)) w:=by
 have hg:(eqGuard (if neg then .neq else .eql) t x y u v).run P w = .ok () w:=run_eqGuard _ t x y u v w (fun c e=>by subst e; cases hu) (fun e=>by subst e; cases hu)
 rw [Sem.run_bind,hg,Result.andThen_ok]
 have key:∀ op,(op = .eql→(binOp op t u v).run P w = .ok (.bool b) w)∧(op = .neq→(binOp op t u v).run P w = .ok (.bool !b) w):=by
  intro op
  constructor <;> (rintro rfl; unfold binOp; cases u <;> (try cases hu) <;> cases v <;> simp [he])
 cases neg
 ·exact (key .eql).1 rfl
 ·exact (key .neq).2 rfl
theorem beq_rel {P:Program} {t:TypeId} {a b:Bool} (ht:P.underlying t=some .bool) (w:World):(Op.equal t (.bool a) (.bool b)).run P w = .ok (a == b) w:=by
 suffices ∀ n:Nat,(Op.equalIn (n+1) t (.bool a) (.bool b)).run P w = .ok (a == b) w from this 9999
 intro n
 simp [Op.equalIn,run_underlying ht]
theorem run_make_rowN' {P:Program} (t e:TypeId) (i:TypeInfo) (z:Value) (ht:P.underlying t=some (.slice e)) (hi:P.info? e=some i) (hz:i.zero=some z)
  (n c:Nat) (hnc:n≤c) (hbytes:(i.bytes:Int)*(c:Int)≤281474976710656) (h63:c≤9223372036854775807) (w:World) :
  (Instr.makeSlice t (.int .i64 (n:Int)) (.int .i64 (c:Int))).run P w =
   .ok (.slice (some ⟨w.heap.size,0,none⟩) n c) { w with heap:=w.heap.push (.cells ((Array.range (c*i.size)).map fun j=>z.cells[j % z.cells.size]!) e (0,0)) }:=by
 have hw:∀ k:Nat,k≤9223372036854775807→IntKind.i64.wrap (k:Int)=k:=by
  intro k hk
  simp only [IntKind.wrap,IntKind.bits,IntKind.signed]
  simp
  omega
 have h1:¬ (281474976710656 < (i.bytes:Int)*(c:Int)):=by omega
 have h2:¬ ((c:Int) < 0):=by omega
 have h3:¬ ((n:Int) < 0):=by omega
 have h4:¬ (c < n):=by omega
 by_cases h0:c*i.size=0
 ·simp [Instr.makeSlice,run_underlying ht,typeInfo,hi,asInt,asIntOf,hw c h63,hw n (by omega),h1,h2,h3,h4,sizeOf,h0,newRow,show Array.range 0 = #[] from rfl]
 ·simp [Instr.makeSlice,run_underlying ht,typeInfo,hi,asInt,asIntOf,hw c h63,hw n (by omega),h1,h2,h3,h4,sizeOf,h0,newRow,zeroValue,hz]
theorem isVar_some {s:Slots} {t:Nat} (h:isVar s t=true):∃ cs,sget s t=some (.var cs):=by
 unfold isVar at h
 split at h
 ·rename_i cs h1; exact ⟨cs,h1⟩
 ·cases h
theorem evs2 {x y:Opd} {vs:List AVal} (h:evs s [x,y]=some vs):∃ u v,vs=[u,v]∧x.ev s=some u∧y.ev s=some v:=by
 cases hx:x.ev s with
 | none=>simp [evs,hx] at h
 | some u =>
  cases hy:y.ev s with
  | none=>simp [evs,hy] at h
  | some v=>simp [evs,hx,hy] at h; exact ⟨u,v,h.symm,rfl,rfl⟩
theorem evs3 {x y z:Opd} {vs:List AVal} (h:evs s [x,y,z]=some vs):∃ u v p,vs=[u,v,p]∧x.ev s=some u∧y.ev s=some v∧z.ev s=some p:=by
 cases hx:x.ev s with
 | none=>simp [evs,hx] at h
 | some u =>
  cases hy:y.ev s with
  | none=>simp [evs,hy] at h
  | some v =>
   cases hz:z.ev s with
   | none=>simp [evs,hz] at h
   | some p=>simp [evs,hx,hy,hz] at h; exact ⟨u,v,p,h.symm,rfl,rfl,rfl⟩
theorem aggs_rel {neg:Bool} {t:TypeId} {ks:List CK} {x y:AVal} {u v:Value} {d:TypeDesc} {r:AVal} {h':Heap} (hd:E.P.underlying t=some d) (hda:(∃ fs,d = .struct fs)∨∃ n e,d = .array n e) (hg:E.P.eqGuardType E.P.depth t=false) (hck:ckOf E.P 20 t=some ks)
  (hx:VRel E μ x u) (hy:VRel E μ y v) (he:evExt (.pure (.eqcells neg ks)) [x,y] h=some (r,h')) (p q:Operand) :
  h'=h∧∃ b,r = .bool b∧(do eqGuard (if neg then .neq else .eql) t p q u v; binOp (if neg then .neq else .eql) t u v:Sem Value).run E.P w = .ok (.bool b) w:=by
 simp only [evExt,evPure] at he
 rw [ae] at he
 obtain ⟨r',he,hr'⟩:=he
 cases hr'
 cases x <;> simp only [evEq,reduceCtorEq] at he
 cases y <;> simp only [reduceCtorEq] at he
 rename_i A B
 split at he
 case isFalse=>cases he
 rename_i hh
 obtain ⟨hk,hlen⟩:=hh
 rw [ae] at he
 obtain ⟨b,hb,he⟩:=he
 cases he
 have hp:∃ m,partT E.P t=some (some m):=by
  obtain ⟨i,hi⟩:=info_of_underlying hd
  refine ⟨i.size,?_⟩
  rcases hda with ⟨fs,rfl⟩ | ⟨n,e,rfl⟩ <;> simp [partT,hd,sizeT,hi]
 obtain ⟨m,hm⟩:=hp
 have heq:=eq_ck 20 t ks hck 9980 μ w (some m) _ _ u v _ _ b hm ⟨_,rfl⟩ ⟨_,rfl⟩ hx hy rfl rfl hlen hk hb
 simp only [VRel] at hx hy
 obtain ⟨xs,rfl,_⟩:=hx
 obtain ⟨ys,rfl,_⟩:=hy
 refine ⟨rfl,_,rfl,?_⟩
 rw [Sem.run_bind,run_eqGuard_agg w _ t p q xs ys hg,Result.andThen_ok]
 cases neg
 ·simp only [bw,if_false]
  rw [run_eql_struct w t xs ys,heq]; rfl
 ·simp only [if_true]
  rw [run_neq_struct w t xs ys,heq]; rfl
theorem ib_find {fn:Func} (h:fn.name = "internal/bytealg.IndexByteString"):Extern.find fn=some Extern.BytealgIndexByte.indexByte:=by
 have h1:Extern.allGenericRows.lookup "internal/bytealg.IndexByteString" = none:=by kernel_rfl
 have h2:Extern.allTypedRows.lookup "internal/bytealg.IndexByteString" = none:=by kernel_rfl
 have h3:Extern.allRows.lookup "internal/bytealg.IndexByteString" = some Extern.BytealgIndexByte.indexByte:=by kernel_rfl
 unfold Extern.find
 simp only [h,h1,h2,h3]
 rfl
theorem cb_find {fn:Func} (h:fn.name = "internal/bytealg.CountString"):Extern.find fn=some Extern.BytealgCount.count:=by
 have h1:Extern.allGenericRows.lookup "internal/bytealg.CountString" = none:=by kernel_rfl
 have h2:Extern.allTypedRows.lookup "internal/bytealg.CountString" = none:=by kernel_rfl
 have h3:Extern.allRows.lookup "internal/bytealg.CountString" = some Extern.BytealgCount.count:=by kernel_rfl
 unfold Extern.find
 simp only [h,h1,h2,h3]
 rfl
theorem next_none {fn:Func} (h:fn.name = "internal/bytealg.IndexByteString" ∨ fn.name = "internal/bytealg.CountString") (ho:fn.origin = ""):Extern.findNext fn=none:=by
 have h1:Extern.allNextRows.lookup "internal/bytealg.IndexByteString" = none:=by kernel_rfl
 have h2:Extern.allNextRows.lookup "internal/bytealg.CountString" = none:=by kernel_rfl
 have h3:Extern.allNextRows.lookup "" = none:=by kernel_rfl
 unfold Extern.findNext
 rcases h with h | h
 ·simp only [h,ho,h1,h3]; rfl
 ·simp only [h,ho,h2,h3]; rfl
theorem prim_done {call:CallSem} {d:Nat} {o:Oper} {k:PrimK} {f:FuncId} {c:Call} {as:List Opd} {x:Slot} {s':Slots} {h':Heap} (hf:FRel E lo ν μ (sget s) a.tmps w) (hr:Rel E μ h w) (hd:∀ t,o.dst=some t→t < a.tmps.size)
  (ho:o.op = .call c) (hcal:c.callee = .value (.func f)) (has:cOpds E c.args.toList=some as) (hk:primOf E.P f=some k) (hev:evOp call d (.ext (.pure (.prim k)) as) s h=some (x,s',h')) :
  OpDone E lo ν.ds μ w a o.dst ((execOp a.eval o).run E.P w) x s' h':=by
 simp only [evOp] at hev
 split at hev
 case h_2=>cases hev
 rename_i vs hvs
 rw [ae] at hev
 obtain ⟨⟨u,h1⟩,hap,hev⟩:=hev
 cases hev
 simp only [evExt,evPure] at hap
 rw [ae] at hap
 obtain ⟨u',hap,e⟩:=hap
 cases e
 have hrel:=ie hf has hvs
 unfold primOf at hk
 split at hk
 case h_2=>cases hk
 rename_i fn hfn
 split at hk
 case isFalse=>cases hk
 rename_i hbo
 have hrun:(execOp a.eval o).run E.P w=(callFunc f (c.args.map a.eval)).run E.P w:=by
  simp [execOp,ho,resolve,hcal,Act.eval,Deferred.ofValue,invoke]
 rw [hrun]
 have hargs:c.args.map a.eval=(c.args.toList.map a.eval).toArray:=by apply Array.ext'; simp
 rw [hargs]
 split at hk
 ·rename_i hname
  cases hk
  have hn:(fn.name == "runtime.NumGoroutine")=false:=by rw [hname]; decide
  unfold evPrim at hap
  split at hap
  ·rename_i sb cb he1
   cases he1
   cases hap
   simp only [VRels,VRel] at hrel
   obtain ⟨_,_,e1,rfl,_,_,e2,rfl,rfl⟩:=hrel
   subst e2
   rw [e1]
   refine cz hf hr hd (v:=.int .i64 (Lib.indexByte sb cb.toNat.toUInt8)) ?_ (by simp only [VRel])
   rw [run_callFunc_extern hfn hn hbo.1 (next_none (.inl hname) hbo.2) (ib_find hname),Lib.run_indexByteString]
   rfl
  ·exact absurd ‹PrimK.indexByte=PrimK.countByte› (by simp)
  ·cases hap
 ·split at hk
  case isFalse =>
   split at hk
   case isFalse=>cases hk
   cases hk
   unfold evPrim at hap
   split at hap
   ·exact absurd ‹PrimK.noZero=PrimK.indexByte› (by simp)
   ·exact absurd ‹PrimK.noZero=PrimK.countByte› (by simp)
   ·cases hap
  rename_i hname
  cases hk
  have hn:(fn.name == "runtime.NumGoroutine")=false:=by rw [hname]; decide
  unfold evPrim at hap
  split at hap
  ·exact absurd ‹PrimK.countByte=PrimK.indexByte› (by simp)
  ·rename_i sb cb he1
   cases he1
   cases hap
   simp only [VRels,VRel] at hrel
   obtain ⟨_,_,e1,rfl,_,_,e2,rfl,rfl⟩:=hrel
   subst e2
   rw [e1]
   refine cz hf hr hd (v:=.int .i64 (Lib.countByte sb cb.toNat.toUInt8)) ?_ (by simp only [VRel])
   rw [run_callFunc_extern hfn hn hbo.1 (next_none (.inr hname) hbo.2) (cb_find hname),Lib.run_countString]
   rfl
  ·cases hap
theorem entry_done (hf:FRel E lo ν μ (sget s) a.tmps w) (hr:Rel E μ h w) {dst:Option Tmp} {rr:Result Next} (hd:∀ x,dst=some x→x < a.tmps.size) {x v:AVal} {u:Value} {h':Heap} (hx:VRel E μ x u)
  (he:evExt .entry [x] h=some (v,h')) (hrun:rr=((Instr.entry u).run E.P w).andThen fun v w'=>.ok (.value v) w'):OpDone E lo ν.ds μ w a dst rr (.val v) s h':=by
 unfold evExt at he
 split at he
 case h_8 =>
  rename_i i e1 e2
  cases e2
  simp only [VRel] at hx
  obtain ⟨ad,hit,mo,hmo,had⟩:=hx
  split at he
  case h_2=>cases he
  rename_i m since seen last hgi
  split at he
  case h_2=>cases he
  rename_i st es clock hst hgm
  split at he
  case isFalse=>cases he
  rename_i hcl
  subst hcl
  rw [ae] at he
  obtain ⟨e,hfd,he⟩:=he
  cases he
  obtain ⟨mi,r',⟨q1,hbase⟩,q2,q3⟩:=hr.obj _ _ hgi
  rw [q1] at hmo; cases hmo
  have had':=had mi rfl
  subst had'
  rw [hbase] at hit
  obtain ⟨mm,es',p1,p2,p3,p4⟩:=hr.obj _ _ hgm
  simp only [VRel] at q3
  obtain ⟨bm,xo,e1,e2,e3⟩:=q3
  rw [p1] at e2; cases e2
  have e3:=e3 mm rfl
  subst e3
  have e1:r'=some mm.blk:=by simpa using e1
  subst e1
  have hfind:∀ (l:List (AVal × AVal × Nat)) (l':List MapEntry),l'.length=l.length→(∀ (k:Nat) (z:AVal × AVal × Nat),l[k]? = some z→∃ y,l'[k]? = some y∧VRel E μ z.1 y.key∧VRel E μ z.2.1 y.val∧y.born=z.2.2) →
    ∀ e,(l.find? fun e=>e.2.2 == st)=some e→∃ y,(l'.find? fun y=>y.born == st)=some y∧VRel E μ e.1 y.key∧VRel E μ e.2.1 y.val:=by
   intro l
   induction l with
   | nil=>intro _ _ _ e he; simp at he
   | cons z l ih =>
    intro l' hl hh e he
    cases l' with
    | nil=>simp at hl
    | cons y l' =>
     obtain ⟨y0,h1,h2,h3,h4⟩:=hh 0 z rfl
     simp at h1
     subst h1
     rw [List.find?_cons] at he ⊢
     rw [h4]
     cases hz:z.2.2 == st with
     | true =>
      rw [hz] at he
      cases he
      exact ⟨y,rfl,h2,h3⟩
     | false =>
      rw [hz] at he
      exact ih l' (by simpa using hl) (fun k z hk=>hh (k+1) z (by simpa using hk)) e he
  obtain ⟨y,hy1,hy2,hy3⟩:=hfind es es'.toList (by simpa using p3) (fun k z hk=>by obtain ⟨y,y1,y2⟩:=p4 k z hk; exact ⟨y,by simpa using y1,y2⟩) e hfd
  have hy1':es'.find? (fun y=>y.born == st)=some y:=by rw [← Array.find?_toList]; exact hy1
  have hback:seen.toArray.back? = some st:=by simpa using hst
  have hir:(Instr.entry u).run E.P w = .ok (.tuple #[y.key,y.val]) w:=by
   rw [hit]
   simp [Instr.entry,getObj,Sem.run,q2,p2,Result.andThen,hback,hy1']
  refine cz hf hr hd (v:=.tuple #[y.key,y.val]) (by rw [hrun,hir]; rfl) ?_
  simp only [VRel]
  exact ⟨_,rfl,by simp only [VRels]; exact ⟨_,_,rfl,hy2,_,_,rfl,hy3,rfl⟩⟩
 all_goals simp_all
theorem op_sound {call:CallSem} {loc:Bool} {o:Oper} {ao:AOp} {x:Slot} {s':Slots} {h':Heap} (hop:cOp E loc o.op=some ao) (hc1:∀ f as,ao ≠ .call f as) (hc2:∀ g as,ao ≠ .callg g as)
  (hev:evOp call (o.dst.getD 0) ao s h=some (x,s',h')) (hf:FRel E lo ν μ (sget s) a.tmps w) (hr:Rel E μ h w) (hlo:lo≤w.heap.size) (hd:∀ t,o.dst=some t→t < a.tmps.size) (hloc:loc=true→isStore o.op=false→o.dst.isSome=true) :
  OpDone E lo ν.ds μ w a o.dst ((execOp a.eval o).run E.P w) x s' h':=by
 cases ho:o.op with
 | move y =>
  rw [ho] at hop
  simp only [cOp] at hop
  rw [ae] at hop
  obtain ⟨y',hy,rfl⟩:=hop
  obtain ⟨u,hu,rfl,rfl,rfl⟩:=du (by simpa only [evOp] using hev)
  exact cz hf hr hd (by simp [execOp,ho]) (bt hf hy hu)
 | assign y =>
  rw [ho] at hop
  simp only [cOp] at hop
  rw [ae] at hop
  obtain ⟨y',hy,rfl⟩:=hop
  obtain ⟨u,hu,rfl,rfl,rfl⟩:=du (by simpa only [evOp] using hev)
  exact cz hf hr hd (by simp [execOp,ho]) (bt hf hy hu)
 | pick c y z =>
  rw [ho] at hop
  simp only [cOp] at hop
  split at hop
  case h_2=>cases hop
  rename_i c' y' z' hc hy hz
  cases hop
  simp only [evOp] at hev
  split at hev
  ·rename_i hcv
   obtain ⟨u,hu,rfl,rfl,rfl⟩:=du hev
   have h1:=bt hf hc hcv
   simp only [VRel] at h1
   exact cz hf hr hd (by simp [execOp,ho,h1,asBool]) (bt hf hy hu)
  ·rename_i hcv
   obtain ⟨u,hu,rfl,rfl,rfl⟩:=du hev
   have h1:=bt hf hc hcv
   simp only [VRel] at h1
   exact cz hf hr hd (by simp [execOp,ho,h1,asBool]) (bt hf hz hu)
  ·cases hev
 | alloc t =>
  rw [ho] at hop
  simp only [cOp] at hop
  split at hop
  case h_2=>cases hop
  rename_i z e hz he
  obtain ⟨v,k1,k2,k3⟩:=run_zero (E:=E) hz μ w
  have hrun:(execOp a.eval o).run E.P w = .ok (.value (.pointer (some ⟨w.heap.size,0,none⟩))) { w with heap:=w.heap.push (.cells v.cells t (0,0)) }:=by
   simp [execOp,ho,Instr.alloc,k1,newVar,newRow]
  cases loc with
  | true =>
   cases hop
   simp only [evOp] at hev; cases hev
   obtain ⟨d,hd'⟩:=Option.isSome_iff_exists.1 (hloc rfl (by rw [ho]; rfl))
   rw [hd']
   exact done_var hf hr hlo (hd d hd') t k2 k3 hrun
  | false =>
   cases hop
   simp only [evOp] at hev; cases hev
   have hlen:h.size=μ.length:=hr.len.symm
   rw [hlen]
   exact jg hf hr hd _ _ ⟨w.heap.size,0,v.cells.size,e⟩ rfl hrun rfl rfl rfl rfl (new_cells k2 k3 rfl) (ptr_new rfl)
 | box t y =>
  rw [ho] at hop
  simp only [cOp] at hop
  rw [ae] at hop
  obtain ⟨y',hy,hop⟩:=hop
  have hrun:(execOp a.eval o).run E.P w = .ok (.value (.pointer (some ⟨w.heap.size,0,none⟩))) { w with heap:=w.heap.push (.cells (a.eval y).cells t (0,0)) }:=by
   simp [execOp,ho,Instr.box,newVar,newRow]
  cases loc with
  | true =>
   simp only [if_true] at hop
   subst hop
   simp only [evOp] at hev
   split at hev
   case h_2=>cases hev
   rename_i cs hcs
   cases hev
   rw [fq] at hcs
   obtain ⟨u,hu,hcs⟩:=hcs
   obtain ⟨k2,k3⟩:=cells_rel (bt hf hy hu) hcs
   obtain ⟨d,hd'⟩:=Option.isSome_iff_exists.1 (hloc rfl (by rw [ho]; rfl))
   rw [hd']
   exact done_var hf hr hlo (hd d hd') t k2 k3 hrun
  | false =>
   simp only [bw,if_false] at hop
   subst hop
   simp only [evOp] at hev
   split at hev
   case h_2=>cases hev
   rename_i cs hcs
   cases hev
   rw [fq] at hcs
   obtain ⟨u,hu,hcs⟩:=hcs
   obtain ⟨k2,k3⟩:=cells_rel (bt hf hy hu) hcs
   have hlen:h.size=μ.length:=hr.len.symm
   rw [hlen]
   exact jg hf hr hd _ _ ⟨w.heap.size,0,(a.eval y).cells.size,cs.length⟩ rfl hrun rfl rfl rfl rfl (new_cells k2 k3 rfl) (ptr_new rfl)
 | build t ps =>
  rw [ho] at hop
  simp only [cOp] at hop
  split at hop
  case h_3=>cases hop
  ·rename_i fs z hu hz
   obtain ⟨v,k1,k2,k3⟩:=run_zero (E:=E) hz μ w
   split at hop
   case h_2=>cases hop
   rename_i pl hpl
   rw [ae] at hop
   obtain ⟨qs,hq,rfl⟩:=hop
   obtain ⟨u,hu',rfl,rfl,rfl⟩:=du (by simpa only [evOp] using hev)
   rw [ae] at hu'
   obtain ⟨cs,hcs,rfl⟩:=hu'
   obtain ⟨c',j1,j2,j3,_⟩:=fill_rel hf hq hcs k2 k3
   refine cz hf hr hd (v:=.agg c') ?_ (by simp only [VRel]; exact ⟨_,rfl,j2,j3⟩)
   simp [execOp,ho,Instr.build,k1,run_underlying hu,Array.mapM_eq_mapM_toList,places_rel w hpl]
   rw [j1]; rfl
  ·rename_i n e z hu hz
   obtain ⟨v,k1,k2,k3⟩:=run_zero (E:=E) hz μ w
   split at hop
   case h_2=>cases hop
   rename_i n hn
   rw [ae] at hop
   obtain ⟨qs,hq,rfl⟩:=hop
   obtain ⟨u,hu',rfl,rfl,rfl⟩:=du (by simpa only [evOp] using hev)
   rw [ae] at hu'
   obtain ⟨cs,hcs,rfl⟩:=hu'
   obtain ⟨c',j1,j2,j3,_⟩:=fill_rel hf hq hcs k2 k3
   refine cz hf hr hd (v:=.agg c') ?_ (by simp only [VRel]; exact ⟨_,rfl,j2,j3⟩)
   simp [execOp,ho,Instr.build,k1,run_underlying hu,gb hn]
   rw [j1]; rfl
 | buildSlice t len ps =>
  rw [ho] at hop
  simp only [cOp] at hop
  split at hop
  case h_2=>cases hop
  rename_i e hu
  split at hop
  case h_2=>cases hop
  rename_i n z hn hz
  split at hop
  case isFalse=>cases hop
  rename_i hh
  obtain ⟨hl,hzl,h0⟩:=hh
  rw [ae] at hop
  obtain ⟨qs,hq,rfl⟩:=hop
  obtain ⟨v,k1,k2,k3⟩:=run_zero (E:=E) hz μ w
  simp only [evOp] at hev
  split at hev
  case h_2=>cases hev
  rename_i cs hcs
  cases hev
  obtain ⟨r1,r2⟩:=rep_rel (n:=len) k2 k3 hzl h0
  have hlen:h.size=μ.length:=hr.len.symm
  rw [hlen]
  by_cases hz0:len*n=0
  ·-- no elements
   have hl0:len=0:=by
    rcases Nat.mul_eq_zero.1 hz0 with h1 | h1
    ·exact h1
    ·omega
   subst hl0
   obtain ⟨c',j1,j2,j3,j4⟩:=fill_rel (c:=#[]) hf hq hcs (by simp [rep,VRels]) (by simp [rep])
   have hc'l:=j2.length
   refine jg hf hr hd (.cells n cs) (.cells c' e (0,0)) ⟨w.heap.size,0,c'.size,n⟩ rfl (w1:={ w with heap:=w.heap.push (.cells c' e (0,0)) }) ?_ rfl rfl rfl rfl (new_cells j2 j3 rfl) (slice_new rfl (ai _) (fun k hk=>by cases hk; rfl) (by simp) (by decide))
   simp [execOp,ho,Instr.buildSlice,run_underlying hu,gb hn,show Array.range 0 = #[] from rfl]
   rw [j1]
   simp [newRow]
  ·obtain ⟨c',j1,j2,j3,j4⟩:=fill_rel hf hq hcs r1 r2
   refine jg hf hr hd (.cells n cs) (.cells c' e (0,0)) ⟨w.heap.size,0,c'.size,n⟩ rfl (w1:={ w with heap:=w.heap.push (.cells c' e (0,0)) }) ?_ rfl rfl rfl rfl (new_cells j2 j3 rfl) (slice_new rfl (ai _) (fun k hk=>by cases hk; rfl) (by rw [j4]; simp) (by have:=Nat.le_mul_of_pos_right len h0; omega))
   have hnl:¬ (16777216 < len*n):=by omega
   simp [execOp,ho,Instr.buildSlice,run_underlying hu,gb hn,hnl,hz0,k1]
   rw [j1]
   simp [newRow]
 | load t y =>
  rw [ho] at hop
  simp only [cOp] at hop
  split at hop
  case h_2=>cases hop
  rename_i n y' hn hy
  cases hop
  simp only [evOp] at hev
  split at hev
  case h_2=>cases hev
  rename_i ad had
  obtain ⟨u,hu,rfl,rfl,rfl⟩:=du hev
  unfold loadAt at hu
  split at hu
  case h_2=>cases hu
  rename_i cs o' hcs
  obtain ⟨b,p,c,e,fr,k1,k2,k3,k4⟩:=cellsAt_rel hf hr hy had hcs
  obtain ⟨v,k5,k6⟩:=load_rel (P:=E.P) hn k2 k3 k4 hu
  exact cz hf hr hd (by simp [execOp,ho,Instr.loadAt,Instr.sureAddr,k1,k5]) k6
 | store t y z =>
  rw [ho] at hop
  simp only [cOp] at hop
  split at hop
  case h_2=>cases hop
  rename_i n y' z' hn hy hz
  cases loc with
  | true =>
   simp only [if_true] at hop
   cases hop
   simp only [evOp] at hev
   split at hev
   case h_2=>cases hev
   rename_i vs hvs
   rw [ae] at hev
   obtain ⟨⟨v,h1⟩,hap,hev⟩:=hev
   cases hev
   obtain ⟨u1,u2,rfl,hu1,hu2⟩:=evs2 hvs
   cases u1 <;> simp only [evExt,reduceCtorEq] at hap
   rename_i q
   cases q with
   | none=>cases hap
   | some q =>
    obtain ⟨i,o'⟩:=q
    simp only at hap
    split at hap
    case h_2=>cases hap
    rename_i xs esz cs hxs hg
    split at hap
    case isFalse=>cases hap
    rename_i hh
    cases hap
    obtain ⟨k2,k3⟩:=cells_rel (bt hf hz hu2) hxs
    have hsz:(a.eval z).cells.size=n:=by have:=k2.length; simp at this; omega
    refine done_hstore hf hr hd (bt hf hy hu1) k2 k3 hg hh.2.1 hh.2.2 fun adr hadr=>?_
    simp [execOp,ho,Instr.storeAt,Instr.sureAddr,hadr,storeVar,gb hn,hsz]
  | false =>
  simp only [bw,if_false] at hop
  cases hop
  simp only [evOp] at hev
  split at hev
  case h_2=>cases hev
  rename_i ad xs had hxs
  split at hev
  case isFalse=>cases hev
  rename_i hl
  rw [ae] at hev
  obtain ⟨⟨s1,h1⟩,hst,hev⟩:=hev
  cases hev
  rw [fq] at hxs
  obtain ⟨u,hu,hxs⟩:=hxs
  obtain ⟨k2,k3⟩:=cells_rel (bt hf hz hu) hxs
  have hsz:(a.eval z).cells.size=n:=by have:=k2.length; simp at this; omega
  refine done_store hf hr hd hy had k2 k3 hst fun adr hadr=>?_
  simp [execOp,ho,Instr.storeAt,Instr.sureAddr,hadr,storeVar,gb hn,hsz]
 | nilCheck y =>
  rw [ho] at hop
  simp only [cOp] at hop
  rw [ae] at hop
  obtain ⟨y',hy,rfl⟩:=hop
  simp only [evOp] at hev
  split at hev
  ·rename_i p hp
   obtain ⟨u,hu,rfl,rfl,rfl⟩:=du hev
   cases hu
   have hv:=bt hf hy hp
   have hv':=hv
   obtain ⟨i,o'⟩:=p
   simp only [VRel] at hv'
   obtain ⟨ad,e1,_⟩:=hv'
   rw [e1] at hv
   exact cz hf hr hd (by simp [execOp,ho,e1]) hv
  ·split at hev
   ·rename_i t o' had
    split at hev
    ·rename_i hv
     cases hev
     obtain ⟨cs,hv⟩:=isVar_some hv
     have e1:=adr_loc hf hy had hv
     exact done_loc hf hr hd (by simp [execOp,ho,e1])
    ·cases hev
   ·cases hev
 | binOp op t y z yt =>
  rw [ho] at hop
  simp only [cOp,cBin] at hop
  split at hop
  case h_2=>cases hop
  rename_i y' z' hy hz
  have hx:(execOp a.eval o)=(do pure (Next.value (← (do eqGuard op t y z (a.eval y) (a.eval z); binOp op t (a.eval y) (a.eval z):Sem Value))):Sem Next):=by simp [execOp,ho]
  have plain:∀ {r:AVal},ao = .bin op y' z'→OpDone E lo ν.ds μ w a o.dst ((execOp a.eval o).run E.P w) x s' h':=by
   intro r hao
   subst hao
   simp only [evOp] at hev
   split at hev
   case h_2=>cases hev
   rename_i u1 u2 hu1 hu2
   obtain ⟨u,hu,rfl,rfl,rfl⟩:=du hev
   have r1:=bt hf hy hu1
   have r2:=bt hf hz hu2
   cases u1 <;> (try (simp only [aBin] at hu; cases hu))
   case int k n =>
    cases u2 <;> (try (simp only [aBin] at hu; cases hu))
    case int k' n' =>
     simp only [VRel] at r1 r2
     obtain ⟨v,j1,j2⟩:=run_bin_int (E:=E) (μ:=μ) (P:=E.P) (t:=t) w hu
     refine cz hf hr hd (v:=v) ?_ j2
     rw [hx]
     apply kh
     rw [r1,r2,Sem.run_bind,run_eqGuard op t y z _ _ w (fun c=>by simp) (by simp),Result.andThen_ok]
     exact j1
   case str t1 =>
    cases u2 <;> (try (simp only [aBin] at hu; cases hu))
    case str t2 =>
     simp only [VRel] at r1 r2
     obtain ⟨v,j1,j2⟩:=run_bin_str (E:=E) (μ:=μ) (P:=E.P) (t:=t) w hu
     refine cz hf hr hd (v:=v) ?_ j2
     rw [hx]
     apply kh
     rw [r1,r2,Sem.run_bind,run_eqGuard op t y z _ _ w (fun c=>by simp) (by simp),Result.andThen_ok]
     exact j1
  have eqs:∀ (d:TypeDesc) (neg:Bool),E.P.underlying t=some d→cEq d neg y' z'=some ao→op=(if neg then .neq else .eql)→OpDone E lo ν.ds μ w a o.dst ((execOp a.eval o).run E.P w) x s' h':=by
   intro d neg hu hao hop'
   subst hop'
   have nilcase:∀ k,kindIs k d→ao = .eqnil k neg y' z'→OpDone E lo ν.ds μ w a o.dst ((execOp a.eval o).run E.P w) x s' h':=by
    intro k hk hao
    subst hao
    simp only [evOp] at hev
    split at hev
    case h_2=>cases hev
    rename_i u1 u2 hu1 hu2
    obtain ⟨u,hu',rfl,rfl,rfl⟩:=du hev
    rw [ae] at hu'
    obtain ⟨b,hb,rfl⟩:=hu'
    obtain ⟨j1,j2⟩:=eqNil_rel (P:=E.P) w (bt hf hy hu1) (bt hf hz hu2) hu hk hb
    refine cz hf hr hd (v:=.bool (if neg then !b else b)) ?_ (by simp only [VRel])
    rw [hx]
    exact kh (run_eq j1 y z j2)
   cases d <;> simp only [cEq] at hao <;> (try cases hao)
   ·-- two bools
    simp only [evOp] at hev
    split at hev
    case h_2=>cases hev
    rename_i b1 b2 hu1 hu2
    obtain ⟨u,hu',rfl,rfl,rfl⟩:=du hev
    cases hu'
    have r1:=bt hf hy hu1
    have r2:=bt hf hz hu2
    simp only [VRel] at r1 r2
    refine cz hf hr hd (v:=.bool (if neg then !(b1 == b2) else (b1 == b2))) ?_ (by simp only [VRel,jz])
    rw [hx,r1,r2]
    exact kh (run_eq rfl y z (beq_rel hu w))
   ·exact nilcase .ptr ⟨_,rfl⟩ rfl
   ·exact nilcase .slice ⟨_,rfl⟩ rfl
   ·exact nilcase .map ⟨_,_,rfl⟩ rfl
   ·exact nilcase .func ⟨_,_,_,rfl⟩ rfl
  have aggs:∀ (d:TypeDesc),E.P.underlying t=some d→((∃ fs,d = .struct fs)∨∃ n e,d = .array n e) →
    (if E.P.eqGuardType E.P.depth t then none else
     match op,ckOf E.P 20 t with
     | .eql,some ks=>some (.ext (.pure (.eqcells false ks)) [y',z'])
     | .neq,some ks=>some (.ext (.pure (.eqcells true ks)) [y',z'])
     | _,_=>none)=some ao→OpDone E lo ν.ds μ w a o.dst ((execOp a.eval o).run E.P w) x s' h':=by
   intro d hu hda hop2
   split at hop2
   ·cases hop2
   rename_i hg
   have hg:E.P.eqGuardType E.P.depth t=false:=by simpa using hg
   have fin:∀ (neg:Bool) (ks:List CK),ckOf E.P 20 t=some ks→op=(if neg then .neq else .eql)→ao = .ext (.pure (.eqcells neg ks)) [y',z']→OpDone E lo ν.ds μ w a o.dst ((execOp a.eval o).run E.P w) x s' h':=by
    intro neg ks hks hopn hao
    subst hopn; subst hao
    simp only [evOp] at hev
    split at hev
    case h_2=>cases hev
    rename_i vs hvs
    rw [ae] at hev
    obtain ⟨⟨v,h1⟩,hap,hev⟩:=hev
    cases hev
    obtain ⟨u1,u2,rfl,hu1,hu2⟩:=evs2 hvs
    obtain ⟨rfl,b,rfl,hrun⟩:=aggs_rel hu hda hg hks (bt hf hy hu1) (bt hf hz hu2) hap y z (w:=w)
    refine cz hf hr hd (v:=.bool b) ?_ (by simp only [VRel])
    rw [hx]
    exact kh hrun
   split at hop2
   ·rename_i hks; cases hop2; exact fin false _ hks rfl rfl
   ·rename_i hks; cases hop2; exact fin true _ hks rfl rfl
   ·cases hop2
  split at hop
  ·cases hop; exact plain (r:=.nilFunc) rfl
  ·cases hop; exact plain (r:=.nilFunc) rfl
  ·rename_i fs hu
   exact aggs _ hu (.inl ⟨_,rfl⟩) hop
  ·rename_i n e hu
   exact aggs _ hu (.inr ⟨_,_,rfl⟩) hop
  ·rename_i d _ _ _ _ hu
   split at hop
   ·exact eqs d false hu hop rfl
   ·exact eqs d true hu hop rfl
   ·cases hop
  ·cases hop
 | unOp op t y =>
  rw [ho] at hop
  simp only [cOp] at hop
  rw [ae] at hop
  obtain ⟨y',hy,rfl⟩:=hop
  simp only [evOp] at hev
  split at hev
  case h_2=>cases hev
  rename_i u1 hu1
  obtain ⟨u,hu,rfl,rfl,rfl⟩:=du hev
  obtain ⟨v,j1,j2⟩:=un_rel (P:=E.P) w (bt hf hy hu1) hu
  refine cz hf hr hd (v:=v) ?_ j2
  rw [show execOp a.eval o=(do pure (Next.value (← Op.unary op (a.eval y))):Sem Next) by simp [execOp,ho]]
  exact kh j1
 | convert src dst y =>
  rw [ho] at hop
  simp only [cOp,cConv] at hop
  have hx:(execOp a.eval o)=(do pure (Next.value (← convert src dst (a.eval y))):Sem Next):=by simp [execOp,ho]
  split at hop
  ·rename_i y' k0 k hy hs hdt
   cases hop
   simp only [evOp] at hev
   split at hev
   case h_2=>cases hev
   rename_i v hv
   simp only [evConv] at hev
   split at hev
   case h_2=>cases hev
   rename_i k' n
   obtain ⟨u,hu,rfl,rfl,rfl⟩:=du hev
   cases hu
   have r1:=bt hf hy hv
   simp only [VRel] at r1
   refine cz hf hr hd (v:=.int k (k.wrap n)) ?_ (by simp only [VRel])
   rw [hx,r1]
   exact kh (by simp [convert,run_underlying hs,run_underlying hdt,Conv.intToInt])
  ·rename_i y' hy hs hdt
   cases hop
   simp only [evOp] at hev
   split at hev
   case h_2=>cases hev
   rename_i v hv
   simp only [evConv] at hev
   split at hev
   case h_2=>cases hev
   rename_i t
   obtain ⟨u,hu,rfl,rfl,rfl⟩:=du hev
   cases hu
   have r1:=bt hf hy hv
   simp only [VRel] at r1
   refine cz hf hr hd (v:=.string ⟨t.toArray⟩) ?_ (by simp only [VRel])
   rw [hx,r1]
   exact kh (by simp [convert,run_underlying hs,run_underlying hdt])
  ·rename_i y' e hy hs hdt
   split at hop
   case isFalse=>cases hop
   rename_i hb
   cases hop
   rw [az] at hb
   have hroom:E.room=0:=by simpa using hb.2
   have hb:=hb.1
   have he:E.P.underlying e=some (.int .u8):=by
    unfold isByte at hb
    split at hb
    ·assumption
    ·cases hb
   simp only [evOp] at hev
   split at hev
   case h_2=>cases hev
   rename_i v hv
   simp only [evConv] at hev
   split at hev
   case h_2=>cases hev
   rename_i t
   split at hev
   case isFalse=>cases hev
   rename_i ht63
   cases hev
   have r1:=bt hf hy hv
   simp only [VRel] at r1
   have hrun:=run_bytes_of_string (P:=E.P) w src dst e ⟨t.toArray⟩ hs hdt he
   rw [mk_size] at hrun
   have hg:=le_grown w t.length 0 e
   generalize hC:bytesRow ⟨t.toArray⟩ (grownCap w t.length 0 e)=C at hrun
   have hCs:C.size=grownCap w t.length 0 e:=by
    rw [← hC]; simp [bytesRow,mk_size]; omega
   have hlen:h.size=μ.length:=hr.len.symm
   rw [hlen]
   refine jg hf hr hd _ (.cells C e (C.size,C.size+1)) ⟨w.heap.size,0,C.size,1⟩ rfl (w1:=w.drew.alloc (.cells C e (C.size,C.size+1))) (by rw [hx,r1]; exact kh hrun) rfl rfl rfl rfl ?_ (slice_new rfl hg (fun k hk=>by cases hk) (by simp [hCs]) (grownCap_le_maxLen w t.length 0 e ht63))
   refine ⟨⟨w.heap.size,0,C.size,1⟩,C,e,(C.size,C.size+1),by simp,rfl,by simp,rfl,by simp [hCs]; exact hg,fun k v' hk=>?_,fun _=>⟨Nat.le_succ _,fun off ho'=>by simp only [hroom] at ho'; simp only; omega⟩⟩
   simp only [bk,ae] at hk
   obtain ⟨b,hb',rfl⟩:=hk
   refine ⟨rfl,.int .u8 b.toNat,?_,by simp only [VRel]⟩
   have hkl:=ah hb'
   rw [← hC]
   simp only [bytesRow,c6]
   rw [Array.getElem?_append_left (by simpa using hkl)]
   simp [hb']
  ·rename_i y' e hy hs hdt
   split at hop
   case isFalse=>cases hop
   rename_i hb
   cases hop
   have he:E.P.underlying e=some (.int .u8):=by
    unfold isByte at hb
    split at hb
    ·assumption
    ·cases hb
   simp only [evOp] at hev
   split at hev
   case h_2=>cases hev
   rename_i v hv
   simp only [evConv] at hev
   split at hev
   case h_2=>cases hev
   rename_i ad n c
   split at hev
   case h_2=>cases hev
   rename_i t ht
   obtain ⟨u,hu,rfl,rfl,rfl⟩:=du hev
   cases hu
   rw [fq] at ht
   obtain ⟨cs,hcs,ht⟩:=ht
   have r1:=bt hf hy hv
   obtain ⟨l,n1,o1,o2,o3,o4,o5,o6⟩:=rowOf_rel hr r1 hcs
   obtain ⟨ns,e2,e3⟩:=bytesOf_rel ht o1
   simp only [alen] at o5
   subst o5
   refine cz hf hr hd (v:=.string ⟨t.toArray⟩) ?_ (by simp only [VRel])
   rw [hx]
   apply kh
   cases ad with
   | none =>
    simp only [VRel] at r1
    obtain ⟨r2,_,r3⟩:=r1
    subst r2
    have hl0:l=[]:=bo (by simpa using o4)
    rw [hl0] at e2
    have hns:ns=[]:=by simpa using e2.symm
    rw [r3,run_convert_bytes_nil (P:=E.P) w src e hs he 0 0 dst hdt,e3,hns]
    rfl
   | some io =>
    simp only [VRel] at r1
    obtain ⟨adr,cap,r2,_⟩:=r1
    have hl:=o6 E.P w rfl
    rw [r2] at hl
    simp only [Builtin.firstCells,Nat.mul_one] at hl
    rw [e2] at hl
    rw [r2,run_convert_bytes_string w src dst e (some adr) n1 cap hs he hdt,run_bytesToString w adr n1 cap ns hl,foldl_push,e3]
    rfl
  ·rename_i y' e e' hy hs hdt
   split at hop
   case isFalse=>cases hop
   rename_i hb
   cases hop
   simp only [az,beq_iff_eq] at hb
   obtain ⟨⟨hb,hsd⟩,hroom⟩:=hb
   subst hsd
   have he:E.P.underlying e=some (.int .u8):=by
    unfold isByte at hb
    split at hb
    ·assumption
    ·cases hb
   simp only [evOp] at hev
   split at hev
   case h_2=>cases hev
   rename_i v hv
   simp only [evConv] at hev
   split at hev
   case h_2=>cases hev
   rename_i i o1 n c
   split at hev
   case h_2=>cases hev
   rename_i e1 cs hg
   split at hev
   case isFalse=>cases hev
   rename_i hh
   cases hev
   exact mark_done hf hr hd hs he hroom (bt hf hy hv) hg hh.1 hh.2 (by rw [hx,Sem.run_bind]; rfl)
  ·cases hop
 | makeFunc fn fs cs =>
  rw [ho] at hop
  cases fn with
  | func f =>
   simp only [cOp] at hop
   split at hop
   case h_2=>cases hop
   rename_i g f' c' hg hff hcc
   cases hop
   simp only [evOp] at hev
   split at hev
   case h_2=>cases hev
   rename_i fv cv hfv hcv
   obtain ⟨u,hu,rfl,rfl,rfl⟩:=du hev
   cases hu
   refine cz hf hr hd (v:=.func (.func f) (fs.map a.eval) (cs.map a.eval)) (by simp [execOp,ho,Instr.makeFunc]) ?_
   simp only [VRel]
   exact ⟨f,_,_,rfl,hg,by simpa using ie hf hff hfv,by simpa using ie hf hcc hcv⟩
  | _=>simp [cOp] at hop
 | makeSlice t l c =>
  rw [ho] at hop
  simp only [cOp] at hop
  split at hop
  case h_2=>cases hop
  rename_i e hu
  split at hop
  case h_2=>cases hop
  rename_i i z l' c' hi hz hl hc
  split at hop
  case isFalse=>cases hop
  rename_i hh
  obtain ⟨hzl,h0⟩:=hh
  cases hop
  simp only [evOp] at hev
  split at hev
  case h_2=>cases hev
  rename_i kl n kc m hlv hcv
  split at hev
  case isFalse=>cases hev
  rename_i hb
  obtain ⟨b1,b2,b3,b4,rfl,rfl⟩:=hb
  cases hev
  have r1:=bt hf hl hlv
  have r2:=bt hf hc hcv
  simp only [VRel] at r1 r2
  obtain ⟨i',v,hi',hv,hzt⟩:=info_zero hz
  rw [hi] at hi'; cases hi'
  obtain ⟨k2,k3⟩:=toAs_rel (E:=E) hzt μ
  obtain ⟨j1,j2⟩:=rep_rel (n:=m.toNat) k2 k3 hzl h0
  have hlen:h.size=μ.length:=hr.len.symm
  rw [hlen]
  obtain ⟨n0,rfl⟩:=Int.eq_ofNat_of_zero_le b1
  obtain ⟨m0,rfl⟩:=Int.eq_ofNat_of_zero_le (show 0≤m by omega)
  simp only [Int.toNat_natCast] at j1 j2 ⊢
  have hbb:i.bytes*(m0:Int)≤281474976710656:=by
   rw [Int.mul_comm]; omega
  have hmk:=run_make_rowN' (P:=E.P) t e i v hu hi hv n0 m0 (by omega) hbb (by omega) w
  generalize hC:((Array.range (m0*i.size)).map fun j=>v.cells[j % v.cells.size]!)=C at j1 hmk
  have hCs:C.size=m0*i.size:=by rw [← hC]; simp
  refine jg hf hr hd _ (.cells C e (0,0)) ⟨w.heap.size,0,C.size,i.size⟩ rfl (w1:={ w with heap:=w.heap.push (.cells C e (0,0)) }) ?_ rfl rfl rfl rfl (new_cells j1 j2 rfl) (slice_new (n:=n0) (cap:=m0) rfl (by omega) (fun k hk=>by cases hk; rfl) (by simp [hCs]) (by omega))
  rw [show execOp a.eval o=(do pure (Next.value (← Instr.makeSlice t (a.eval l) (a.eval c))):Sem Next) by simp [execOp,ho],r1,r2]
  exact kh hmk
 | slice t y l1 l2 l3 =>
  rw [ho] at hop
  have hop2:=hop
  have hao:∃ k y' m1 m2 m3,ao = .slice k y' m1 m2 m3:=by
   simp only [cOp] at hop2
   split at hop2
   ·split at hop2
    ·cases hop2; exact ⟨_,_,_,_,_,rfl⟩
    ·rw [ae] at hop2; obtain ⟨_,_,rfl⟩:=hop2; exact ⟨_,_,_,_,_,rfl⟩
    ·rw [ae] at hop2; obtain ⟨_,_,rfl⟩:=hop2; exact ⟨_,_,_,_,_,rfl⟩
    ·cases hop2
   ·cases hop2
  obtain ⟨k,y',m1,m2,m3,hao⟩:=hao
  have hop':cOp E false (.slice t y l1 l2 l3)=some ao:=by rw [← hop]; rfl
  subst hao
  simp only [evOp] at hev
  split at hev
  case h_2=>cases hev
  rename_i lv hv mv hlv hhv hmv
  obtain ⟨u,hu,rfl,rfl,rfl⟩:=du hev
  obtain ⟨v,j1,j2⟩:=slice_rel hf hr hop' rfl hlv hhv hmv hu
  refine cz hf hr hd (v:=v) ?_ j2
  rw [show execOp a.eval o=(do pure (Next.value (← Instr.sliceAt t (a.eval y) (l1.map a.eval) (l2.map a.eval) (l3.map a.eval))):Sem Next) by simp [execOp,ho]]
  exact kh j1
 | fieldAddr t y fi =>
  rw [ho] at hop
  simp only [cOp] at hop
  split at hop
  case h_2=>cases hop
  rename_i fs y' hu hy
  split at hop
  case h_2=>cases hop
  rename_i fl hfl
  split at hop
  case h_2=>cases hop
  rename_i k hk
  cases hop
  have hz:=gb (P:=E.P) hk w
  have hrun:∀ b o',a.eval y = .pointer (some ⟨b,o',none⟩)→(execOp a.eval o).run E.P w = .ok (.value (.pointer (some ⟨b,o'+fl.offset,none⟩))) w:=by
   intro b o' hy'
   simp [execOp,ho,Instr.fieldAt,run_underlying hu,hfl,hy',Instr.sureAddr,fieldPlace,hz,add_plain]
  simp only [evOp] at hev
  split at hev
  ·rename_i i o' had
   obtain ⟨u,hu',rfl,rfl,rfl⟩:=du hev
   cases hu'
   obtain ⟨adr,k1,xx,k2,k3⟩:=adr_glob hf hy had
   cases xx with
   | none =>
    obtain ⟨b,o2,sp⟩:=adr
    cases sp with
    | none =>
     refine cz hf hr hd (hrun b o2 k1) ?_
     simp only [VRel]
     exact ⟨_,rfl,none,k2,fun m hm=>by cases hm⟩
    | some sp =>
     refine cz hf hr hd (v:=.pointer (some ((⟨b,o2,some sp⟩:Addr).add fl.offset))) ?_ ?_
     ·simp [execOp,ho,Instr.fieldAt,run_underlying hu,hfl,k1,Instr.sureAddr,fieldPlace,hz]
     ·simp only [VRel]
      exact ⟨_,rfl,none,k2,fun m hm=>by cases hm⟩
   | some m =>
    have:=k3 m rfl; subst this
    refine cz hf hr hd (hrun _ _ k1) ?_
    simp only [VRel]
    exact ⟨_,rfl,some m,k2,fun m' hm=>by cases hm; rw [jj]⟩
  ·rename_i t' o' had
   split at hev
   ·rename_i hv
    cases hev
    obtain ⟨cs,hv⟩:=isVar_some hv
    exact done_loc hf hr hd (hrun _ _ (adr_loc hf hy had hv))
   ·cases hev
  ·cases hev
 | field t y fi =>
  rw [ho] at hop
  simp only [cOp] at hop
  split at hop
  case h_2=>cases hop
  rename_i fs y' hu hy
  split at hop
  case h_2=>cases hop
  rename_i fl hfl
  rw [ae] at hop
  obtain ⟨n,hn,rfl⟩:=hop
  simp only [evOp] at hev
  split at hev
  case h_2=>cases hev
  rename_i cs hcs
  obtain ⟨u,hu',rfl,rfl,rfl⟩:=du hev
  have r1:=bt hf hy hcs
  simp only [VRel] at r1
  obtain ⟨c,r2,r3,r4⟩:=r1
  obtain ⟨v,j1,j2⟩:=part_rel (P:=E.P) w hn r3 r4 hu'
  exact cz hf hr hd (by simp [execOp,ho,Instr.field,run_underlying hu,hfl,r2,asAgg,j1]) j2
 | indexAddr t y z =>
  rw [ho] at hop
  simp only [cOp] at hop
  split at hop
  ·rename_i e y' z' hu hy hz
   rw [ae] at hop
   obtain ⟨n,hn,rfl⟩:=hop
   simp only [evOp] at hev
   split at hev
   case h_2=>cases hev
   rename_i b o' len cap iv hyv hzv
   obtain ⟨u,hu',rfl,rfl,rfl⟩:=du hev
   rw [ae] at hu'
   obtain ⟨j,hj,rfl⟩:=hu'
   obtain ⟨kd,i,r1,r2,r3,r4⟩:=kv (bt hf hz hzv) hj
   have r5:=bt hf hy hyv
   simp only [VRel] at r5
   obtain ⟨ad,cp,q1,q2,q3,q4,q5,q6⟩:=r5
   obtain ⟨xx,q7,q8⟩:=q3 (by omega)
   refine cz hf hr hd (v:=.pointer (some (ad.add (j*n)))) ?_ ?_
   ·have hlt:i < (len:Int):=r3
    simp [execOp,ho,Instr.indexAt,r1,asIntOf,run_underlying hu,q1,r2,hlt,gb hn,r4]
   ·simp only [VRel]
    exact ⟨_,rfl,xx,q7,fun m hm=>by rw [q8 m hm,add_plain,jj]⟩
  ·rename_i len e y' z' hu hy hz
   rw [ae] at hop
   obtain ⟨n,hn,rfl⟩:=hop
   have hrun:∀ ad kd i,a.eval y = .pointer (some ad)→a.eval z = .int kd i→0≤i→i < (len:Int) →
     (execOp a.eval o).run E.P w = .ok (.value (.pointer (some (ad.add (i.toNat*n))))) w:=by
    intro ad kd i h1 h2 h3 h4
    simp [execOp,ho,Instr.indexAt,h2,asIntOf,run_underlying hu,h1,Instr.sureAddr,h3,h4,gb hn]
   simp only [evOp] at hev
   split at hev
   ·rename_i b o' iv had hzv
    obtain ⟨u,hu',rfl,rfl,rfl⟩:=du hev
    rw [ae] at hu'
    obtain ⟨j,hj,rfl⟩:=hu'
    obtain ⟨kd,i,r1,r2,r3,r4⟩:=kv (bt hf hz hzv) hj
    obtain ⟨adr,k1,xx,k2,k3⟩:=adr_glob hf hy had
    refine cz hf hr hd (hrun adr kd i k1 r1 r2 r3) ?_
    simp only [VRel]
    exact ⟨_,rfl,xx,k2,fun m hm=>by rw [k3 m hm,add_plain,jj,r4]⟩
   ·rename_i t' o' iv had hzv
    split at hev
    case isFalse=>cases hev
    rename_i hv
    rw [ae] at hev
    obtain ⟨j,hj,hev⟩:=hev
    cases hev
    obtain ⟨kd,i,r1,r2,r3,r4⟩:=kv (bt hf hz hzv) hj
    obtain ⟨cs,hv⟩:=isVar_some hv
    have k1:=adr_loc hf hy had hv
    have:=hrun _ kd i k1 r1 r2 r3
    rw [add_plain,← r4] at this
    exact done_loc hf hr hd this
   ·cases hev
  ·cases hop
 | index t y z =>
  rw [ho] at hop
  simp only [cOp] at hop
  split at hop
  ·rename_i y' z' hu hy hz
   cases hop
   simp only [evOp] at hev
   split at hev
   case h_2=>cases hev
   rename_i t' iv hyv hzv
   obtain ⟨u,hu',rfl,rfl,rfl⟩:=du hev
   rw [fq] at hu'
   obtain ⟨j,hj,hu'⟩:=hu'
   rw [ae] at hu'
   obtain ⟨b,hb,rfl⟩:=hu'
   obtain ⟨kd,i,r1,r2,r3,r4⟩:=kv (bt hf hz hzv) hj
   have r5:=bt hf hy hyv
   simp only [VRel] at r5
   refine cz hf hr hd (v:=.int .u8 b.toNat) ?_ (by simp only [VRel])
   have hb':(⟨t'.toArray⟩:ByteArray)[i.toNat]? = some b:=by rw [string_get,← r4]; exact hb
   simp [execOp,ho,Instr.index,r1,asIntOf,run_underlying hu,r5,r2,hb']
  ·rename_i len e y' z' hu hy hz
   split at hop
   case h_2=>cases hop
   rename_i n k hn hk
   cases hop
   simp only [evOp] at hev
   split at hev
   case h_2=>cases hev
   rename_i cs iv hyv hzv
   obtain ⟨u,hu',rfl,rfl,rfl⟩:=du hev
   rw [fq] at hu'
   obtain ⟨j,hj,hu'⟩:=hu'
   obtain ⟨kd,i,r1,r2,r3,r4⟩:=kv (bt hf hz hzv) hj
   have r5:=bt hf hy hyv
   simp only [VRel] at r5
   obtain ⟨c,r6,r7,r8⟩:=r5
   obtain ⟨v,j1,j2⟩:=part_rel (P:=E.P) w hk r7 r8 hu'
   rw [r4] at j1
   have hlt:i < (len:Int):=r3
   exact cz hf hr hd (v:=v) (by simp [execOp,ho,Instr.index,r1,asIntOf,run_underlying hu,r6,r2,hlt,gb hn,j1]) j2
  ·cases hop
 | extract y i =>
  rw [ho] at hop
  simp only [cOp] at hop
  rw [ae] at hop
  obtain ⟨y',hy,rfl⟩:=hop
  simp only [evOp] at hev
  split at hev
  case h_2=>cases hev
  rename_i vs hvs
  obtain ⟨u,hu,rfl,rfl,rfl⟩:=du hev
  have r1:=bt hf hy hvs
  simp only [VRel] at r1
  obtain ⟨vs',r2,r3⟩:=r1
  obtain ⟨v,r4,r5⟩:=r3.get hu
  have r4':vs'[i]? = some v:=by simpa using r4
  exact cz hf hr hd (v:=v) (by simp [execOp,ho,Instr.extract,r2,r4']) r5
 | call c =>
  rw [ho] at hop
  simp only [cOp,cCall] at hop
  split at hop
  ·rename_i f hcal
   split at hop
   ·cases hop; exact absurd rfl (hc2 _ _)
   ·rename_i as hg has
    rw [ae] at hop
    obtain ⟨k,hk,rfl⟩:=hop
    exact prim_done hf hr hd ho hcal has hk hev
   ·cases hop
  ·split at hop
   ·cases hop; exact absurd rfl (hc1 _ _)
   ·cases hop
  ·rename_i b hcal
   have hx:∃ bs,∀ (ts:List TypeId) (l:List Operand),c.argTypes.toList=ts→c.args.toList=l→(execOp a.eval o).run E.P w=(builtin b ts.toArray o.type bs (l.map a.eval).toArray).run E.P w:=by
    refine ⟨c.args.map fun | .const _=>true | _=>false,fun ts l hts hl=>?_⟩
    have h1:c.args.map a.eval=(l.map a.eval).toArray:=by subst hl; apply Array.ext'; simp
    have h2:c.argTypes=ts.toArray:=by rw [← hts]
    simp only [execOp,ho,resolve,hcal,h1,← h2]
    rfl
   obtain ⟨bs,hx⟩:=hx
   split at hop
   ·-- len
    rename_i t y hat hargs
    have hx:=hx _ _ hat hargs
    have fin:∀ {u:AVal} {v:Value},(Builtin.len_ #[t] o.type #[a.eval y]).run E.P w = .ok v w→VRel E μ u v→OpDone E lo ν.ds μ w a o.dst ((execOp a.eval o).run E.P w) (.val u) s h:=by
     intro u v h1 h2
     refine cz hf hr hd (v:=v) ?_ h2
     rw [hx]
     exact kh h1
    split at hop
    ·rename_i hu
     rw [ae] at hop
     obtain ⟨y',hy,rfl⟩:=hop
     simp only [evOp] at hev
     split at hev
     case h_2=>cases hev
     rename_i v hv
     obtain ⟨u,hu',rfl,rfl,rfl⟩:=du hev
     simp only [evLen] at hu'
     split at hu'
     case h_2=>cases hu'
     cases hu'
     have r1:=bt hf hy hv
     simp only [VRel] at r1
     exact fin (by simp [Builtin.len_,run_underlying hu,r1,mk_size]; rfl) (by simp only [VRel,goInt])
    ·rename_i hu
     rw [ae] at hop
     obtain ⟨y',hy,rfl⟩:=hop
     simp only [evOp] at hev
     split at hev
     case h_2=>cases hev
     rename_i v hv
     obtain ⟨u,hu',rfl,rfl,rfl⟩:=du hev
     simp only [evLen] at hu'
     split at hu'
     case h_2=>cases hu'
     cases hu'
     rename_i ad n cp
     have r1:=bt hf hy hv
     cases ad with
     | none =>
      simp only [VRel] at r1
      obtain ⟨r2,_,r3⟩:=r1
      subst r2
      exact fin (v:=goInt 0) (by simp [Builtin.len_,run_underlying hu,r3]) (by simp only [VRel,goInt]; rfl)
     | some p =>
      simp only [VRel] at r1
      obtain ⟨adr,cap,r2,_⟩:=r1
      exact fin (by simp [Builtin.len_,run_underlying hu,r2]; rfl) (by simp only [VRel,goInt])
    ·rename_i hu
     rw [ae] at hop
     obtain ⟨y',hy,rfl⟩:=hop
     simp only [evOp] at hev
     split at hev
     case h_2=>cases hev
     rename_i v hv
     obtain ⟨u,hu',rfl,rfl,rfl⟩:=du hev
     simp only [evLen] at hu'
     split at hu'
     ·cases hu'
      have r1:=bt hf hy hv
      simp only [VRel] at r1
      exact fin (v:=goInt 0) (by simp [Builtin.len_,run_underlying hu,r1]) (by simp only [VRel,goInt])
     ·rename_i i
      split at hu'
      ·rename_i es ck hg
       cases hu'
       have r1:=bt hf hy hv
       simp only [VRel] at r1
       obtain ⟨b',xx,r2,r3,r4⟩:=r1
       obtain ⟨m,es',q1,q2,q3,_⟩:=hr.obj i _ hg
       rw [r3] at q1; cases q1
       have:=r4 m rfl; subst this
       refine fin (v:=.int .i64 es'.size) ?_ (by simp only [VRel,q3])
       have hgo:(getObj m.blk).run E.P w = .ok (.map es' ck) w:=by simp [getObj,Sem.run,q2]
       simp [Builtin.len_,run_underlying hu,r2,hgo,goInt]
      ·cases hu'
     ·cases hu'
    ·cases hop
   ·-- append
    rename_i t u y z hat hargs
    have hx:=hx _ _ hat hargs
    have fin:∀ (e:TypeId) (i:TypeInfo) (zv:Value) (y' z':Opd),E.P.underlying t=some (.slice e)→((∃ e',E.P.underlying u=some (.slice e'))∨E.P.underlying u=some .string)→cOpd E y=some y'→cOpd E z=some z' →
      E.P.info? e=some i→i.zero=some zv→zv.cells.size=i.size→ao = .append i.size i.bytes y' z'→OpDone E lo ν.ds μ w a o.dst ((execOp a.eval o).run E.P w) x s' h':=by
     intro e i zv y' z' ht hu hy hz hi hzv hzs hao
     subst hao
     simp only [evOp] at hev
     split at hev
     case h_2=>cases hev
     rename_i u1 u2 hu1 hu2
     rw [ae] at hev
     obtain ⟨⟨v,h1⟩,hap,hev⟩:=hev
     cases hev
     have r1:=bt hf hy hu1
     have r2:=bt hf hz hu2
     exact append_done (ty:=o.type) hf hr hd ht hu hi hzv hzs r1 r2 hap (by rw [hx]; simp only [builtin]; rw [Sem.run_bind]; rfl)
    split at hop
    ·rename_i e e' y' z' ht hu hy hz
     split at hop
     case h_2=>cases hop
     rename_i i hi
     split at hop
     case h_2=>cases hop
     rename_i zv hzv
     split at hop
     case isFalse=>cases hop
     rename_i hzs
     cases hop
     exact fin e i zv y' z' ht (.inl ⟨_,hu⟩) hy hz hi hzv hzs rfl
    ·rename_i e y' z' ht hu hy hz
     split at hop
     case h_2=>cases hop
     rename_i i hi
     split at hop
     case h_2=>cases hop
     rename_i zv hzv
     split at hop
     case isFalse=>cases hop
     rename_i hzs
     cases hop
     exact fin e i zv y' z' ht (.inr hu) hy hz hi hzv hzs rfl
    ·rename_i e kq y' z' ht hu hy hz
     split at hop
     case h_2=>cases hop
     rename_i i zz hi hzz
     split at hop
     case isFalse=>cases hop
     rename_i hzl
     cases hop
     simp only [evOp] at hev
     split at hev
     case h_2=>cases hev
     rename_i vs hvs
     rw [ae] at hev
     obtain ⟨⟨v,h1⟩,hap,hev⟩:=hev
     cases hev
     obtain ⟨u1,u2,rfl,hu1,hu2⟩:=evs2 hvs
     exact appz_done (ty:=o.type) hf hr hd ht hu hi hzz hzl.1 hzl.2 (bt hf hy hu1) (bt hf hz hu2) hap (by rw [hx]; simp only [builtin]; rw [Sem.run_bind]; rfl)
    ·cases hop
   ·-- cap
    rename_i t y hat hargs
    have hx:=hx _ _ hat hargs
    split at hop
    case h_2=>cases hop
    rename_i e hu
    rw [ae] at hop
    obtain ⟨y',hy,rfl⟩:=hop
    simp only [evOp,evs] at hev
    cases hv:y'.ev s with
    | none=>rw [hv] at hev; cases hev
    | some v =>
     rw [hv] at hev
     simp only at hev
     rw [ae] at hev
     obtain ⟨⟨u,h1⟩,hap,hev⟩:=hev
     cases hev
     have r1:=bt hf hy hv
     simp only [evExt,evPure] at hap
     rw [ae] at hap
     obtain ⟨u',hap,hu'⟩:=hap
     cases hu'
     cases v <;> simp only [evCap,reduceCtorEq] at hap
     rename_i ad n cp
     cases cp with
     | none=>cases hap
     | some k =>
      simp only at hap
      cases hap
      have:∃ b n',a.eval y = .slice b n' k:=by
       cases ad with
       | none=>simp only [VRel] at r1; obtain ⟨_,e1,e2⟩:=r1; cases e1; exact ⟨_,_,e2⟩
       | some p=>simp only [VRel] at r1; obtain ⟨b,cap,e1,_,_,e2,_⟩:=r1; rw [e2 k rfl] at e1; exact ⟨_,_,e1⟩
      obtain ⟨b,n',e1⟩:=this
      refine cz hf hr hd (v:=.int .i64 k) ?_ (by simp only [VRel])
      rw [hx]
      refine kh (S:=Builtin.cap_ #[t] o.type #[a.eval y]) ?_
      simp [Builtin.cap_,run_underlying hu,e1,goInt]
   ·-- copy
    rename_i t u y z hat hargs
    have hx:=hx _ _ hat hargs
    split at hop
    case h_2=>cases hop
    rename_i e e' y' z' ht hu hy hz
    rw [ae] at hop
    obtain ⟨n,hn,rfl⟩:=hop
    simp only [evOp] at hev
    split at hev
    case h_2=>cases hev
    rename_i vs hvs
    rw [ae] at hev
    obtain ⟨⟨v,h1⟩,hap,hev⟩:=hev
    cases hev
    obtain ⟨u1,u2,rfl,hu1,hu2⟩:=evs2 hvs
    exact copy_done (ty:=o.type) hf hr hd ht hn (bt hf hy hu1) (bt hf hz hu2) hap (by rw [hx]; simp only [builtin]; rw [Sem.run_bind]; rfl)
   ·-- clear
    rename_i t y hat hargs
    have hx:=hx _ _ hat hargs
    split at hop
    case h_2=>cases hop
    rename_i e ht
    split at hop
    case h_2=>cases hop
    rename_i n z y' hn hz hy
    split at hop
    case isFalse=>cases hop
    rename_i hzl
    cases hop
    simp only [evOp] at hev
    split at hev
    case h_2=>cases hev
    rename_i vs hvs
    rw [ae] at hev
    obtain ⟨⟨v,h1⟩,hap,hev⟩:=hev
    cases hev
    simp only [evs] at hvs
    split at hvs
    case h_2=>cases hvs
    rename_i u us hu1 hus
    cases hus; cases hvs
    exact clear_done (ty:=o.type) hf hr hd ht hz hzl.1 hzl.2 (bt hf hy hu1) hap (by rw [hx]; simp only [builtin]; rw [Sem.run_bind]; rfl)
   ·-- delete
    rename_i t ts y z hat hargs
    have hx:=hx _ _ hat hargs
    split at hop
    case h_2=>cases hop
    rename_i k e hu
    split at hop
    case h_2=>cases hop
    rename_i kn y' z' hk hy hz
    cases hop
    simp only [evOp] at hev
    split at hev
    case h_2=>cases hev
    rename_i vs hvs
    rw [ae] at hev
    obtain ⟨⟨v,h1⟩,hap,hev⟩:=hev
    cases hev
    obtain ⟨u1,u2,rfl,hu1,hu2⟩:=evs2 hvs
    exact delete_done hf hr hd (ts:=(t :: ts).toArray) (ty:=o.type) rfl hu hk (bt hf hy hu1) (bt hf hz hu2) hap (by rw [hx]; simp only [builtin]; rw [Sem.run_bind]; rfl)
   ·-- min
    rename_i ts ys
    rw [ae] at hop
    obtain ⟨ys',hys,rfl⟩:=hop
    have hx:=hx _ _ rfl rfl
    simp only [evOp] at hev
    split at hev
    case h_2=>cases hev
    rename_i v0 vs hvs
    obtain ⟨u,hu,rfl,rfl,rfl⟩:=du hev
    have r1:=ie hf hys hvs
    simp only [VRels] at r1
    obtain ⟨x0,xs,e1,r2,r3⟩:=r1
    obtain ⟨v,j1,j2⟩:=mins_rel (P:=E.P) w r2 r3 hu
    refine cz hf hr hd (v:=v) ?_ j2
    rw [hx]
    refine kh (S:=Builtin.min_ c.argTypes o.type (c.args.toList.map a.eval).toArray) ?_
    simp only [Builtin.min_,e1]
    simpa using j1
   ·rename_i ts ys
    rw [ae] at hop
    obtain ⟨ys',hys,rfl⟩:=hop
    have hx:=hx _ _ rfl rfl
    simp only [evOp] at hev
    split at hev
    case h_2=>cases hev
    rename_i v0 vs hvs
    obtain ⟨u,hu,rfl,rfl,rfl⟩:=du hev
    have r1:=ie hf hys hvs
    simp only [VRels] at r1
    obtain ⟨x0,xs,e1,r2,r3⟩:=r1
    obtain ⟨v,j1,j2⟩:=mins_rel (P:=E.P) w r2 r3 hu
    refine cz hf hr hd (v:=v) ?_ j2
    rw [hx]
    refine kh (S:=Builtin.max_ c.argTypes o.type (c.args.toList.map a.eval).toArray) ?_
    simp only [Builtin.max_,e1]
    simpa using j1
   ·cases hop
  ·cases hop
 | makeMap t hint =>
  have fin:ao = .ext .mkmap []→(hint=none∨∃ k n,hint=some (.const (.int k n))∧∃ a b,E.P.underlying t=some (.map a b))→OpDone E lo ν.ds μ w a o.dst ((execOp a.eval o).run E.P w) x s' h':=by
   intro hao hh
   subst hao
   simp only [evOp,evs,evExt,bq] at hev
   cases hev
   have hlen:h.size=μ.length:=hr.len.symm
   rw [hlen]
   refine jg hf hr hd (.map [] 0) (.map #[] 0) ⟨w.heap.size,0,0,0⟩ rfl (w1:={ w with heap:=w.heap.push (.map #[] 0) }) (v:=.map (some w.heap.size)) ?_ rfl rfl rfl rfl ?_ ?_
   ·rcases hh with rfl | ⟨k,n,rfl,p,q,hu⟩
    ·simp [execOp,ho,Instr.makeMap]
    ·simp [execOp,ho,Instr.makeMap,run_underlying hu,asInt,asIntOf,Act.eval]
   ·exact ⟨⟨w.heap.size,0,0,0⟩,#[],by rw [au (ai _)]; simp,by simp,rfl,by simp⟩
   ·simp only [VRel]
    exact ⟨w.heap.size,some ⟨w.heap.size,0,0,0⟩,rfl,by rw [au (ai _)]; simp,fun m hm=>by cases hm; rfl⟩
  rw [ho] at hop
  cases hint with
  | none=>simp only [cOp] at hop; cases hop; exact fin rfl (.inl rfl)
  | some y =>
   cases y with
   | const v =>
    cases v with
    | int k n =>
     simp only [cOp] at hop
     split at hop
     ·rename_i hu
      cases hop
      exact fin rfl (.inr ⟨_,_,rfl,_,_,hu⟩)
     ·cases hop
    | _=>simp [cOp] at hop
   | _=>simp [cOp] at hop
 | lookup t y z ok =>
  rw [ho] at hop
  simp only [cOp] at hop
  split at hop
  case h_2=>cases hop
  rename_i k e hu
  split at hop
  case h_2=>cases hop
  rename_i kn zv y' z' hk hzv hy hz
  cases hop
  simp only [evOp] at hev
  split at hev
  case h_2=>cases hev
  rename_i vs hvs
  rw [ae] at hev
  obtain ⟨⟨v,h1⟩,hap,hev⟩:=hev
  cases hev
  obtain ⟨u1,u2,rfl,hu1,hu2⟩:=evs2 hvs
  obtain ⟨rfl,r,j1,j2⟩:=lookup_rel hr hu hk hzv (bt hf hy hu1) (bt hf hz hu2) hap
  refine cz hf hr hd (v:=r) ?_ j2
  simp only [execOp,ho]
  exact kh j1
 | mapUpdate t m y z =>
  rw [ho] at hop
  simp only [cOp] at hop
  split at hop
  case h_2=>cases hop
  rename_i k e hu
  split at hop
  case h_2=>cases hop
  rename_i kn m' y' z' hk hm hy hz
  cases hop
  simp only [evOp] at hev
  split at hev
  case h_2=>cases hev
  rename_i vs hvs
  rw [ae] at hev
  obtain ⟨⟨v,h1⟩,hap,hev⟩:=hev
  cases hev
  obtain ⟨u1,u2,u3,rfl,hu1,hu2,hu3⟩:=evs3 hvs
  refine mapupd_done hf hr hd hu hk (bt hf hm hu1) (bt hf hy hu2) (bt hf hz hu3) hap ?_
  simp only [execOp,ho]
  rw [Sem.run_bind]; rfl
 | insert t m y z =>
  rw [ho] at hop
  simp only [cOp] at hop
  split at hop
  case h_2=>cases hop
  rename_i k e hu
  split at hop
  case h_2=>cases hop
  rename_i kn m' y' z' hk hm hy hz
  cases hop
  simp only [evOp] at hev
  split at hev
  case h_2=>cases hev
  rename_i vs hvs
  rw [ae] at hev
  obtain ⟨⟨v,h1⟩,hap,hev⟩:=hev
  cases hev
  obtain ⟨u1,u2,u3,rfl,hu1,hu2,hu3⟩:=evs3 hvs
  refine mapupd_done hf hr hd hu hk (bt hf hm hu1) (bt hf hy hu2) (bt hf hz hu3) hap ?_
  simp only [execOp,ho]
  rw [Sem.run_bind]; rfl
 | mapEntry t m y =>
  rw [ho] at hop
  simp only [cOp] at hop
  split at hop
  case h_2=>cases hop
  rename_i k e hu
  split at hop
  case h_2=>cases hop
  rename_i kn zv m' y' hk hzv hm hy
  cases hop
  simp only [evOp] at hev
  split at hev
  case h_2=>cases hev
  rename_i vs hvs
  rw [ae] at hev
  obtain ⟨⟨v,h1⟩,hap,hev⟩:=hev
  cases hev
  obtain ⟨u1,u2,rfl,hu1,hu2⟩:=evs2 hvs
  refine mapentry_done hf hr hd hu hk hzv (bt hf hm hu1) (bt hf hy hu2) hap ?_
  simp only [execOp,ho]
  rw [Sem.run_bind]; rfl
 | entryStore t m y z =>
  rw [ho] at hop
  simp only [cOp] at hop
  split at hop
  case h_2=>cases hop
  rename_i m' y' z' hm hy hz
  cases hop
  simp only [evOp] at hev
  split at hev
  case h_2=>cases hev
  rename_i vs hvs
  rw [ae] at hev
  obtain ⟨⟨v,h1⟩,hap,hev⟩:=hev
  cases hev
  obtain ⟨u1,u2,u3,rfl,hu1,hu2,hu3⟩:=evs3 hvs
  refine entrystore_done (t:=t) hf hr hd (bt hf hm hu1) (bt hf hy hu2) (bt hf hz hu3) hap ?_
  simp only [execOp,ho]
  rw [Sem.run_bind]; rfl
 | range t y =>
  rw [ho] at hop
  simp only [cOp] at hop
  split at hop
  case h_2=>cases hop
  rename_i k e hu
  rw [ae] at hop
  obtain ⟨y',hy,rfl⟩:=hop
  simp only [evOp] at hev
  split at hev
  case h_2=>cases hev
  rename_i vs hvs
  rw [ae] at hev
  obtain ⟨⟨v,h1⟩,hap,hev⟩:=hev
  cases hev
  simp only [evs] at hvs
  split at hvs
  case h_2=>cases hvs
  rename_i u us hu1 hus
  cases hus; cases hvs
  have hlen:h.size=μ.length:=hr.len.symm
  have hyr:=bt hf hy hu1
  unfold evExt at hap
  split at hap
  case h_1=>simp_all
  case h_2 =>
   rename_i e1 e2
   cases e2
   cases hap
   simp only [VRel] at hyr
   rw [hlen]
   refine jg hf hr hd (.mapIter none 0 [] 0) (.mapIter none 0 #[] 0) ⟨w.heap.size,0,0,0⟩ rfl (w1:={ w with heap:=w.heap.push (.mapIter none 0 #[] 0) }) (v:=.pointer (some ⟨w.heap.size,0,none⟩)) ?_ rfl rfl rfl rfl ?_ ?_
   ·simp only [execOp,ho]
    refine kh ?_
    rw [hyr]
    simp [Instr.range,run_underlying hu,newObj,Sem.run]
   ·exact ⟨⟨w.heap.size,0,0,0⟩,none,⟨by rw [au (ai _)]; simp,rfl⟩,by simp,by simp [VRel]⟩
   ·simp only [VRel,ARel]
    exact ⟨_,rfl,some ⟨w.heap.size,0,0,0⟩,by rw [au (ai _)]; simp,fun m hm=>by cases hm; rfl⟩
  case h_3 =>
   rename_i r e1 e2
   cases e2
   split at hap
   case h_2=>cases hap
   rename_i es clock hgr
   cases hap
   obtain ⟨m,es',q1,q2,q3,q4⟩:=hr.obj _ _ hgr
   have hyr':=hyr
   simp only [VRel] at hyr
   obtain ⟨bm,xo,r1,r2,r3⟩:=hyr
   rw [q1] at r2; cases r2
   have r3:=r3 m rfl
   subst r3
   rw [r1] at hyr'
   rw [hlen]
   refine jg hf hr hd (.mapIter (some r) clock [] clock) (.mapIter (some m.blk) clock #[] clock) ⟨w.heap.size,0,0,0⟩ rfl (w1:={ w with heap:=w.heap.push (.mapIter (some m.blk) clock #[] clock) }) (v:=.pointer (some ⟨w.heap.size,0,none⟩)) ?_ rfl rfl rfl rfl ?_ ?_
   ·simp only [execOp,ho]
    refine kh ?_
    rw [r1]
    simp [Instr.range,run_underlying hu,MapKept.run_getObj_map q2,newObj,Sem.run]
   ·exact ⟨⟨w.heap.size,0,0,0⟩,some m.blk,⟨by rw [au (ai _)]; simp,rfl⟩,by simp,hyr'.later (gc μ _)⟩
   ·simp only [VRel,ARel]
    exact ⟨_,rfl,some ⟨w.heap.size,0,0,0⟩,by rw [au (ai _)]; simp,fun m hm=>by cases hm; rfl⟩
  all_goals simp_all
 | entry y =>
  rw [ho] at hop
  simp only [cOp] at hop
  rw [ae] at hop
  obtain ⟨y',hy,rfl⟩:=hop
  simp only [evOp] at hev
  split at hev
  case h_2=>cases hev
  rename_i vs hvs
  rw [ae] at hev
  obtain ⟨⟨v,h1⟩,hap,hev⟩:=hev
  cases hev
  simp only [evs] at hvs
  split at hvs
  case h_2=>cases hvs
  rename_i u us hu1 hus
  cases hus; cases hvs
  exact entry_done hf hr hd (bt hf hy hu1) hap (by simp only [execOp,ho]; rw [Sem.run_bind]; rfl)
 | _=>rw [ho] at hop; simp [cOp] at hop
end
end Go.Abs
