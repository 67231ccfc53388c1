/-
  Texts joined.
-/
import Derived.Test.YtnpknimahijmfaaDoorP0
import Derived.Test.YtnpknimahijmfaaDoorP2
import Derived.WalkSpells
import Derived.Laws.IdiomStrings
import Derived.Laws.BytesArg
import Derived.Lib.AppendZerosOnto
import Derived.MapKept
import Derived.DeepKeys
set_option linter.unusedVariables false
set_option linter.unusedSimpArgs false
set_option maxRecDepth 100000
namespace Go.Abs
def OpDone (E:Env) (lo:Nat) (D:List Nat) (μ:MM) (w:World) (a:Act) (dst:Option Tmp) (r:Result Next) (x:Slot) (s':Slots) (h':Heap):Prop :=
 ∃ v w' μ' ν',ν'.ds=D∧(r = .ok (.value v) w'∨(v=Go.undef∧r = .ok .skip w'))∧Step (fun k=>lo≤k) h'.wmin μ w μ' w'∧Rel E μ' h' w' ∧
  FRel E lo ν' μ' (put1 (sget s') dst x) (a.put dst v).tmps w'
section
variable {E:Env} {lo:Nat} {ν:Fr} {μ:MM} {s:Slots} {h:Heap} {a:Act} {w:World} {dst:Option Tmp} {r:Result Next}
theorem ed (a:Act) (dst:Option Tmp) (v:Value):(a.put dst v).tmps=putT a.tmps dst v:=by
 cases dst <;> rfl
theorem FRel.heap {g:SlotFn} {tmps:Array Value} {w':World} (hf:FRel E lo ν μ g tmps w) (hw:w'.heap=w.heap):FRel E lo ν μ g tmps w' :=
 hf.keep (Later.refl _) (fun _ _ _=>by rw [hw]) (fun _ _ i m _ hi hm=>absurd (ah hm) (by omega)) fun _ _=>⟨by rw [hw],fun i m hi hm=>absurd (ah hm) (by omega)⟩
theorem bp (hf:FRel E lo ν μ (sget s) a.tmps w) (hr:Rel E μ h w) (hd:∀ x,dst=some x→x < a.tmps.size) {v:Value} {u:AVal} (hrun:r = .ok (.value v) w) (hv:VRel E μ u v) :
  OpDone E lo ν.ds μ w a dst r (.val u) s h:=by
 refine ⟨v,w,μ,ν,rfl,.inl hrun,Step.refl _ _ _ _,hr,?_⟩
 rw [ed]
 exact hf.setVal hd hv
theorem done_loc (hf:FRel E lo ν μ (sget s) a.tmps w) (hr:Rel E μ h w) (hd:∀ x,dst=some x→x < a.tmps.size) {t o:Nat} (hrun:r = .ok (.value (.pointer (some ⟨ν t,o,none⟩))) w) :
  OpDone E lo ν.ds μ w a dst r (.loc t o) s h:=by
 refine ⟨_,w,μ,ν,rfl,.inl hrun,Step.refl _ _ _ _,hr,?_⟩
 rw [ed]
 cases dst with
 | none=>exact hf.congr fun t=>by simp [put1]
 | some d=>exact hf.setLoc (hd d rfl)
theorem fp (hf:FRel E lo ν μ (sget s) a.tmps w) (hr:Rel E μ h w) (hd:∀ x,dst=some x→x < a.tmps.size) (o:AObj) (B:Obj) (m:M) (hm:m.blk=w.heap.size) {w1:World} {v:Value} {u:AVal}
  (hrun:r = .ok (.value v) w1) (h1:w1.heap=w.heap.push B) (h2:w1.os=w.os) (h3:w1.tape=w.tape) (h4:w1.output=w.output)
  (ho:ORel E (μ++[some m]) h.base μ.length { w with heap:=w.heap.push B } o) (hv:VRel E (μ++[some m]) u v) :
  OpDone E lo ν.ds μ w a dst r (.val u) s (h.push o):=by
 have hp:=hr.push o B m hm ho
 have hs:Step (fun k=>lo≤k) (h.push o).wmin μ w (μ++[some m]) { w with heap:=w.heap.push B }:=Step.push _ μ w B m (by omega)
 refine ⟨v,w1,μ++[some m],ν,rfl,.inl hrun,hs.heap h1 h2 h3 h4,hp.same rfl rfl h1,?_⟩
 have hf1:FRel E lo ν (μ++[some m]) (sget s) a.tmps { w with heap:=w.heap.push B }:=by
  refine hf.keep (du μ _) (fun t cs hv=>?_) (fun t cs i m' hv hi hm'=>?_) fun r hr=>⟨?_,fun i m' hi hm'=>?_⟩
  ·have:=hf.lt hv
   show (w.heap.push B)[ν t]? = _
   rw [b9,if_neg (by omega)]
  ·rcases en hm' with b | ⟨_,b⟩
   ·exact absurd (ah b) (by omega)
   ·cases b; have:=hf.lt hv; omega
  ·have:=hf.lt_ds hr
   show (w.heap.push B)[r]? = _
   rw [b9,if_neg (by omega)]
  ·rcases en hm' with b | ⟨_,b⟩
   ·exact absurd (ah b) (by omega)
   ·cases b; have:=hf.lt_ds hr; omega
 rw [ed]
 exact (hf1.setVal hd hv).heap h1
theorem done_var (hf:FRel E lo ν μ (sget s) a.tmps w) (hr:Rel E μ h w) (hlo:lo≤w.heap.size) {d:Nat} (hd:d < a.tmps.size) {cs:List AVal} {c:Array Value} (e:TypeId)
  (hc:VRels E μ cs c.toList) (h1:∀ x ∈ cs,x.isOne=true) (hrun:r = .ok (.value (.pointer (some ⟨w.heap.size,0,none⟩))) { w with heap:=w.heap.push (.cells c e (0,0)) }) :
  OpDone E lo ν.ds μ w a (some d) r (.var cs) (unloc d s) h:=by
 refine ⟨_,_,μ,⟨fun t=>if t=d then w.heap.size else ν t,ν.ds⟩,rfl,.inl hrun,?_,hr.keep (by simp) fun i m hm=>?_,?_⟩
 ·exact ⟨rfl,rfl,rfl,by simp,fun k hk _ _=>by
   show (w.heap.push _)[k]? = _
   rw [b9,if_neg (by omega)],aj _,fun _ _=>.inl rfl,fun i m hi hm=>absurd (ah hm) (by omega)⟩
 ·have:=hr.lt i m hm
  show (w.heap.push _)[m.blk]? = _
  rw [b9,if_neg (by omega)]
 ·rw [ed]
  exact hf.setVar hr.lt hlo hd e hc h1
theorem run_zero {P:Program} {t:TypeId} {z:List AVal} (hz:zeroOf P t=some z) (μ:MM) (w:World):∃ v,(zeroValue t).run P w = .ok v w∧VRels E μ z v.cells.toList∧∀ x ∈ z,x.isOne=true:=by
 unfold zeroOf at hz
 split at hz
 ·rename_i i hi
  split at hz
  ·rename_i v hv
   obtain ⟨k1,k2⟩:=toAs_rel (E:=E) hz μ
   exact ⟨v,by simp [zeroValue,typeInfo,hi,hv],k1,k2⟩
  ·cases hz
 ·cases hz
theorem info_zero {P:Program} {t:TypeId} {z:List AVal} (hz:zeroOf P t=some z):∃ i v,P.info? t=some i∧i.zero=some v∧toAs v.cells.toList=some z:=by
 unfold zeroOf at hz
 split at hz
 ·rename_i i hi
  split at hz
  ·rename_i v hv
   exact ⟨i,v,hi,hv,hz⟩
  ·cases hz
 ·cases hz
theorem new_cells {cs:List AVal} {c:Array Value} {e:TypeId} {esz b:Nat} {m:M} (hc:VRels E μ cs c.toList) (h1:∀ x ∈ cs,x.isOne=true) (hm:m=⟨w.heap.size,0,c.size,esz⟩) :
  ORel E (μ++[some m]) b μ.length { w with heap:=w.heap.push (.cells c e (0,0)) } (.cells esz cs):=by
 subst hm
 have hl:=hc.length
 refine ⟨⟨w.heap.size,0,c.size,esz⟩,c,e,(0,0),by simp,rfl,by simp,rfl,by simp at hl ⊢; omega,fun k v hk=>?_,fun _ off _=>by simp⟩
 obtain ⟨v',hv',hr⟩:=hc.get hk
 exact ⟨h1 v (aq hk),v',by simpa using hv',hr.later (du μ _)⟩
theorem ptr_new {m:M} (hm:m.base=0):VRel E (μ++[some m]) (.ptr (some (μ.length,0))) (.pointer (some ⟨m.blk,0,none⟩)):=by
 simp only [VRel]
 exact ⟨_,rfl,some m,by simp,fun m' h=>by cases h; rw [hm]⟩
theorem slice_new {m:M} {n cap:Nat} {c:Option Nat} (hm:m.base=0) (hn:n≤cap) (hc:∀ k,c=some k→cap=k) (hs:cap*m.esz≤m.size) (hx:cap≤9223372036854775807) :
  VRel E (μ++[some m]) (.slice (some (μ.length,0)) n c) (.slice (some ⟨m.blk,0,none⟩) n cap):=by
 simp only [VRel]
 refine ⟨_,cap,rfl,⟨by simp,hx⟩,fun _=>⟨some m,by simp,fun m' h=>by cases h; rw [hm]⟩,hc,hn,fun m' h=>?_⟩
 simp at h; subst h; omega
theorem fold_splice:∀ (xs:List Value) (cs:Array Value) (off j:Nat),(xs.zipIdx j).foldl (fun (cs:Array Value) (x:Value × Nat)=>cs.setIfInBounds (off+x.2) x.1) cs=spliceA cs (off+j) xs
 | [],_,_,_=>rfl
 | x :: xs,cs,off,j=>by
  simp only [List.zipIdx_cons,List.foldl_cons,spliceA]
  exact fold_splice xs _ off (j+1)
theorem fill_rel (hf:FRel E lo ν μ (sget s) a.tmps w) {place:Nat→Option (Nat × Nat)}:∀ {ps:List (Nat × Operand)} {qs:List (Nat × Nat × Opd)} {cs cs':List AVal} {c:Array Value},
  cParts E place ps=some qs→Abs.fill s cs qs=some cs'→VRels E μ cs c.toList→(∀ x ∈ cs,x.isOne=true) →
  ∃ c':Array Value,Instr.fill place c (ps.map fun p=>(p.1,a.eval p.2))=some c'∧VRels E μ cs' c'.toList∧(∀ x ∈ cs',x.isOne=true)∧c'.size=c.size
 | [],qs,cs,cs',c,hq,he,hc,h1=>by
  simp only [cParts] at hq; cases hq
  simp only [Abs.fill] at he; cases he
  exact ⟨c,rfl,hc,h1,rfl⟩
 | (i,x) :: ps,qs,cs,cs',c,hq,he,hc,h1=>by
  simp only [cParts] at hq
  split at hq
  ·rename_i o n y qs' hp hx hps
   cases hq
   simp only [Abs.fill] at he
   split at he
   ·rename_i xs hxs
    split at he
    ·rename_i hh
     obtain ⟨hn,hlen⟩:=hh
     cases hev:y.ev s with
     | none=>rw [hev] at hxs; simp at hxs
     | some v =>
      rw [hev] at hxs
      simp only [Option.bind_some] at hxs
      have hv:=a8 hf hx hev
      obtain ⟨k1,k2⟩:=cells_rel hv hxs
      have k3:=k1.length
      have hlc:=hc.length
      have hcr:CRel E μ cs c 0:=fun k v' hk=>by
       obtain ⟨u,hu,hr⟩:=hc.get hk
       exact ⟨h1 v' (aq hk),u,by simpa using hu,hr⟩
      have hsp:=hcr.splice k1 k2 (o:=o) (by omega) (by simp at hlc; omega)
      have hl2:=fg cs o xs (by omega)
      have hsz:=ei (a.eval x).cells.toList c (0+o)
      have hrel:VRels E μ (Abs.splice cs o xs) (spliceA c (0+o) (a.eval x).cells.toList).toList:=by
       apply VRels.of
       ·simp [hl2,ei]; simpa using hlc
       ·intro k v' hk
        obtain ⟨_,u,hu,hr⟩:=hsp k v' hk
        exact ⟨u,by simpa using hu,hr⟩
      have hone:∀ x' ∈ Abs.splice cs o xs,x'.isOne=true:=fun x' hx'=>by
       obtain ⟨k,hk⟩:=dp hx'
       exact (hsp k x' hk).1
      obtain ⟨c',j1,j2,j3,j4⟩:=fill_rel hf hps he hrel hone
      refine ⟨c',?_,j2,j3,by rw [j4,hsz]⟩
      simp only [dw,Instr.fill,hp]
      have e1:((a.eval x).cells.size≠n || o+(a.eval x).cells.size > c.size)=false:=by
       simp at k3 hlc
       simp; omega
      rw [if_neg (by simp only [e1]; exact Bool.false_ne_true)]
      have e2:((a.eval x).cells.zipIdx.foldl (fun (cs:Array Value) (x:Value × Nat)=>cs.setIfInBounds (o+x.2) x.1) c)=spliceA c (0+o) (a.eval x).cells.toList:=by
       have:=fold_splice (a.eval x).cells.toList c o 0
       rw [← Array.foldl_toList,Array.toList_zipIdx,this]
       congr 1; omega
      rw [e2]; exact j1
    ·cases he
   ·cases he
  ·cases hq
theorem places_rel {P:Program} (w:World):∀ {fs:List Field} {pl:List (Nat × Nat)},fieldPlaces P fs=some pl→(fs.mapM fun f=>(Functor.map (Prod.mk f.offset) (sizeOf f.type):Sem (Nat × Nat))).run P w = .ok pl w
 | [],pl,h=>by simp only [fieldPlaces] at h; cases h; rfl
 | f :: fs,pl,h=>by
  simp only [fieldPlaces] at h
  split at h
  ·rename_i n l hn hl
   cases h
   have ih:=places_rel w hl
   simp only [List.mapM_cons,Sem.run_bind,Sem.run_map,dt hn,Result.andThen_ok,Sem.run_pure,ih]
  ·cases h
end
end Go.Abs

namespace Go.Abs
section
variable {E:Env} {lo:Nat} {ν:Fr} {μ:MM} {s:Slots} {h:Heap} {a:Act} {w:World}
theorem rep_get {α:Type} (l:List α) (k:Nat) (hk:l.length=k) (h0:0 < k):∀ (n i:Nat),i < n*k→((List.replicate n l).flatten)[i]? = l[i % k]?
 | 0,i,h=>by omega
 | n+1,i,h=>by
  rw [List.replicate_succ,List.flatten_cons]
  by_cases hi:i < k
  ·rw [ai (by omega),Nat.mod_eq_of_lt hi]
  ·rw [ak (by omega),hk,rep_get l k hk h0 n (i - k) (by rw [cz] at h; omega)]
   congr 1
   rw [Nat.mod_eq_sub_mod (a:=i) (by omega)]
theorem rep_length {α:Type} (l:List α) (k:Nat) (hk:l.length=k):∀ n,((List.replicate n l).flatten).length=n*k
 | 0=>by simp
 | n+1=>by rw [List.replicate_succ,List.flatten_cons,bg,hk,rep_length l k hk n,cz]; omega
theorem rep_rel {z:List AVal} {zero:Array Value} {k n:Nat} (hz:VRels E μ z zero.toList) (h1:∀ x ∈ z,x.isOne=true) (hk:z.length=k) (h0:0 < k) :
  VRels E μ (rep n z) ((Array.range (n*k)).map fun i=>zero[i % zero.size]!).toList∧(∀ x ∈ rep n z,x.isOne=true):=by
 have hl:=hz.length
 simp at hl
 constructor
 ·apply VRels.of
  ·rw [rep,rep_length z k hk]; simp
  ·intro i x hx
   have hi:i < n*k:=by
    have:=ah hx
    rw [rep,rep_length z k hk] at this; exact this
   rw [rep,rep_get z k hk h0 n i hi] at hx
   obtain ⟨v,hv,hr⟩:=hz.get hx
   refine ⟨v,?_,hr⟩
   have hm:i % zero.size < zero.size:=Nat.mod_lt _ (by omega)
   have e:zero.size=k:=by omega
   simp [hi]
   rw [e] at hm ⊢
   rw [gl] at hv
   rw [getElem!_pos zero _ (by omega)]
   rw [Array.getElem?_eq_getElem (by omega)] at hv
   simpa using hv
 ·intro x hx
  unfold rep at hx
  rw [List.mem_flatten] at hx
  obtain ⟨l,hl1,hl2⟩:=hx
  rw [List.mem_replicate] at hl1
  rw [hl1.2] at hl2
  exact h1 x hl2
theorem bytesOf_rel:∀ {cs:List AVal} {t:List UInt8} {l:List Value},bytesOf cs=some t→VRels E μ cs l→∃ ns:List Int,l=ns.map (Value.int .u8)∧t=ns.map fun n=>UInt8.ofNat n.toNat
 | [],t,l,h,hl=>by
  simp only [bytesOf] at h; cases h
  simp only [VRels] at hl; subst hl
  exact ⟨[],rfl,rfl⟩
 | c :: cs,t,l,h,hl=>by
  simp only [VRels] at hl
  obtain ⟨v,r,rfl,hv,hr⟩:=hl
  unfold bytesOf at h
  split at h
  ·rename_i h0; cases h0
  ·rename_i n r' h0
   cases h0
   rw [ae] at h
   obtain ⟨t',ht,rfl⟩:=h
   simp only [VRel] at hv; subst hv
   obtain ⟨ns,e1,e2⟩:=bytesOf_rel ht hr
   exact ⟨n :: ns,by simp [e1],by simp [e2]⟩
  ·cases h
theorem foldl_push:∀ (ns:List Int) (r:ByteArray),ns.foldl (fun r n=>r.push (UInt8.ofNat n.toNat)) r=⟨(r.data.toList++ns.map fun n=>UInt8.ofNat n.toNat).toArray⟩
 | [],r=>by simp
 | n :: ns,r=>by
  rw [List.foldl_cons,foldl_push ns]
  simp
theorem done_store (hf:FRel E lo ν μ (sget s) a.tmps w) (hr:Rel E μ h w) {dst:Option Tmp} {r:Result Next} (hd:∀ x,dst=some x→x < a.tmps.size) {x:Operand} {y:Opd} {ad:AAddr} {xs:List AVal} {l:List Value} {s':Slots} {h':Heap}
  (hc:cOpd E x=some y) (hy:y.adr s=some ad) (hxs:VRels E μ xs l) (h1:∀ v ∈ xs,v.isOne=true) (hst:storeAt s h ad xs=some (s',h'))
  (hrun:∀ adr,a.eval x = .pointer (some adr)→r=((storeCells adr l).run E.P w).andThen fun _ w'=>.ok .skip w') :
  OpDone E lo ν.ds μ w a dst r .undef s' h':=by
 have hlen:=hxs.length
 have hone:=gi hxs h1
 cases ad with
 | glob i o =>
  simp only [storeAt] at hst
  split at hst
  ·rename_i esz cs hg
   split at hst
   ·rename_i hh
    cases hst
    obtain ⟨hb,hl⟩:=hh
    obtain ⟨m,c,e,fr,k1,k2,k3,k4,k5,k6,k7⟩:=hr.obj i _ hg
    obtain ⟨adr,k8,x',k9,k10⟩:=adr_glob hf hc hy
    rw [k1] at k9; cases k9
    have:=k10 m rfl; subst this
    have hrs:=eo (P:=E.P) (b:=m.blk) (e:=e) (fr:=fr) (a:=⟨m.blk,m.base+o,none⟩) rfl rfl l 0 c w k3 (by simp; omega) (by rw [k4]; exact (k7 hb).lt) hone
    have hsp:=k6.splice hxs h1 hl (by omega)
    refine ⟨Go.undef,_,μ,ν,rfl,.inr ⟨rfl,by rw [hrun _ k8,hrs]; rfl⟩,Step.put k1 (cw _ _) _,hr.put hb k1 ?_,?_⟩
    ·exact ⟨m,_,e,fr,k1,k2,de (hr.lt i m k1),by rw [ei]; exact k4,by rw [fg _ _ _ hl]; exact k5,hsp,k7⟩
    ·rw [ed]
     refine FRel.setUndef ?_ hd
     exact hf.keep (Later.refl _) (fun t cs' hv=>a0 (hf.sepm t cs' i m hv k1)) (fun t cs' j m' _ hj hm=>absurd (ah hm) (by omega)) fun q hq=>⟨a0 ((hf.sepd q hq).1 i m k1),fun j m' hj hm=>absurd (ah hm) (by omega)⟩
   ·cases hst
  ·cases hst
 | loc t o =>
  simp only [storeAt] at hst
  split at hst
  ·rename_i cs hg
   split at hst
   ·rename_i hl
    cases hst
    obtain ⟨_,k2,c,e,fr,k3,k4,k5,k6⟩:=hf.var t _ hg
    have k8:=adr_loc hf hc hy hg
    have hrs:=eo (P:=E.P) (b:=ν t) (e:=e) (fr:=fr) (a:=⟨ν t,o,none⟩) rfl rfl l 0 c w k3 (by simp; omega) k6 hone
    have hsp:=k5.splice hxs h1 hl (by omega)
    have hsz:=ei l c (0+o)
    simp only [b8] at hsp hsz
    refine ⟨Go.undef,_,μ,ν,rfl,.inr ⟨rfl,by rw [hrun _ k8,hrs]; rfl⟩,?_,hr.keep (by simp [withBlock]) fun i m hm=>a0 (fun e=>hf.sepm t _ i m hg hm e.symm),?_⟩
    ·exact ⟨rfl,rfl,rfl,by simp [withBlock],fun k hk hx _=>a0 (fun e=>hx (by rw [← e]; exact k2)),aj _,fun _ _=>.inl rfl,fun i m hi hm=>absurd (ah hm) (by omega)⟩
    ·rw [ed]
     refine FRel.setUndef ?_ hd
     simp only [Nat.add_zero]
     exact hf.putVar hg (by rw [hsz,fg _ _ _ hl]; exact k4) hsp (by rw [hsz]; exact k6)
   ·cases hst
  ·cases hst
theorem done_hstore (hf:FRel E lo ν μ (sget s) a.tmps w) (hr:Rel E μ h w) {dst:Option Tmp} {r:Result Next} (hd:∀ x,dst=some x→x < a.tmps.size) {i o esz:Nat} {xs cs:List AVal} {l:List Value} {u:Value}
  (hu:VRel E μ (.ptr (some (i,o))) u) (hxs:VRels E μ xs l) (h1:∀ v ∈ xs,v.isOne=true) (hg:h.get i=some (.cells esz cs)) (hb:h.base≤i) (hl:o+xs.length≤cs.length)
  (hrun:∀ adr,u = .pointer (some adr)→r=((storeCells adr l).run E.P w).andThen fun _ w'=>.ok .skip w') :
  OpDone E lo ν.ds μ w a dst r (.val (.tuple [])) s (h.put i (.cells esz (splice cs o xs))):=by
 have hlen:=hxs.length
 have hone:=gi hxs h1
 obtain ⟨m,c,e,fr,k1,k2,k3,k4,k5,k6,k7⟩:=hr.obj i _ hg
 simp only [VRel] at hu
 obtain ⟨adr,k8,x',k9,k10⟩:=hu
 rw [k1] at k9; cases k9
 have:=k10 m rfl; subst this
 have hrs:=eo (P:=E.P) (b:=m.blk) (e:=e) (fr:=fr) (a:=⟨m.blk,m.base+o,none⟩) rfl rfl l 0 c w k3 (by simp; omega) (by rw [k4]; exact (k7 hb).lt) hone
 have hsp:=k6.splice hxs h1 hl (by omega)
 refine ⟨Go.undef,_,μ,ν,rfl,.inr ⟨rfl,by rw [hrun _ k8,hrs]; rfl⟩,Step.put k1 (cw _ _) _,hr.put hb k1 ?_,?_⟩
 ·exact ⟨m,_,e,fr,k1,k2,de (hr.lt i m k1),by rw [ei]; exact k4,by rw [fg _ _ _ hl]; exact k5,hsp,k7⟩
 ·rw [ed]
  refine FRel.setVal ?_ hd (by simp only [VRel]; exact ⟨#[],rfl,by simp [VRels]⟩)
  exact hf.keep (Later.refl _) (fun t cs' hv=>a0 (hf.sepm t cs' i m hv k1)) (fun t cs' j m' _ hj hm=>absurd (ah hm) (by omega)) fun q hq=>⟨a0 ((hf.sepd q hq).1 i m k1),fun j m' hj hm=>absurd (ah hm) (by omega)⟩
theorem copy_done (hf:FRel E lo ν μ (sget s) a.tmps w) (hr:Rel E μ h w) {dst:Option Tmp} {r:Result Next} (hd:∀ x,dst=some x→x < a.tmps.size)
  {t u ty e:TypeId} {ez:Nat} {x y v:AVal} {vx vy:Value} {h':Heap} (ht:E.P.underlying t=some (.slice e)) (hn:sizeT E.P e=some ez)
  (hx:VRel E μ x vx) (hy:VRel E μ y vy) (he:evExt (.copy ez) [x,y] h=some (v,h'))
  (hrun:r=((Builtin.copy_ #[t,u] ty #[vx,vy]).run E.P w).andThen fun v w'=>.ok (.value v) w') :
  OpDone E lo ν.ds μ w a dst r (.val v) s h':=by
 cases x with
 | slice ao n c=>?_
 | _=>simp [evExt] at he
 simp only [evExt] at he
 generalize hkk:min n (alen y)=k at he
 split at he
 case h_2=>cases he
 rename_i src hsrc
 cases y with
 | slice ya yn yc=>?_
 | _=>cases hsrc
 have hkk:min n yn=k:=hkk
 have hk:k≤yn:=by omega
 have hsrc:rowOf ez h (.slice ya k yc)=some src:=by
  rw [← hsrc]
  exact (if_pos hk).symm
 obtain ⟨yb,ycap,hvy,hyk⟩:∃ yb ycap,vy = .slice yb yn ycap∧VRel E μ (.slice ya k yc) (.slice yb k ycap):=by
  cases ya with
  | none=>simp only [VRel] at hy ⊢; obtain ⟨rfl,h2,h3⟩:=hy; exact ⟨none,0,h3,by omega,h2,by rw [show k=0 by omega]⟩
  | some p =>
   obtain ⟨i,o⟩:=p
   simp only [VRel] at hy ⊢
   obtain ⟨ad,cap,h1,h2,h3,h4,h5,h6⟩:=hy
   exact ⟨some ad,cap,h1,ad,cap,rfl,h2,h3,h4,by omega,h6⟩
 obtain ⟨l,k',q1,q2,q3,q4,q5,q6⟩:=rowOf_rel hr hyk hsrc
 have q5:k'=k:=q5
 subst q5
 have hfc:=q6 E.P w rfl
 have hfc2:(Builtin.firstCells ez k' vy).run E.P w = .ok l.toArray w:=by
  rw [hvy]
  cases yb with
  | none=>exact hfc
  | some ad=>exact hfc
 have hlen:(Builtin.lenOf vy).run E.P w = .ok yn w:=by rw [hvy]; rfl
 split at he
 ·rename_i h0
  cases he
  have hl0:l=[]:=a9 (by rw [q4,h0]; simp)
  subst hl0
  refine bp hf hr hd (v:=.int .i64 0) ?_ (by simp [VRel])
  rw [hrun]
  obtain ⟨b,cap,hvx⟩:∃ b cap,vx = .slice b n cap:=by
   cases ao with
   | none=>simp only [VRel] at hx; exact ⟨none,0,by rw [hx.2.2,hx.1]⟩
   | some p=>obtain ⟨i,o⟩:=p; simp only [VRel] at hx; obtain ⟨ad,cap,h1,_⟩:=hx; exact ⟨some ad,cap,h1⟩
  have h0':Nat.min yn n=0:=by rw [show Nat.min yn n=min n yn from Nat.min_comm _ _]; omega
  rw [h0] at hfc2
  rw [hvx]
  cases b <;> simp [Builtin.copy_,run_underlying ht,dt hn,hlen,hfc2,storeCells,goInt,h0']
 ·rename_i h0
  split at he
  case h_2=>cases he
  rename_i i o
  split at he
  case h_2=>cases he
  rename_i e1 cs hg
  split at he
  case isFalse=>cases he
  rename_i hh
  obtain ⟨rfl,hb,hl⟩:=hh
  cases he
  simp only [VRel] at hx
  obtain ⟨ad,cap,hvx,hi,hA,hck,hcap,hsz⟩:=hx
  obtain ⟨m,cc,te,fr,k1,k2,k3,k4,k5,k6,k7⟩:=hr.obj i _ hg
  obtain ⟨x',k8,k9⟩:=hA (by omega)
  rw [k1] at k8; cases k8
  have:=k9 m rfl; subst this
  have hone:=gi q1 q2
  have hll:=q1.length
  have hrs:=eo (P:=E.P) (b:=m.blk) (e:=te) (fr:=fr) (a:=⟨m.blk,m.base+o,none⟩) rfl rfl l 0 cc w k3 (by simp; omega) (by rw [k4]; exact (k7 hb).lt) hone
  have hsp:=k6.splice q1 q2 hl (by omega)
  have hkn:k'=Nat.min yn n:=hkk.symm.trans (Nat.min_comm _ _)
  rw [hkn] at hfc2
  refine ⟨.int .i64 ((k':Nat):Int),withBlock w m.blk (.cells (spliceA cc (m.base+o+0) l) te fr),μ,ν,rfl,.inl ?_,Step.put k1 (cw _ _) _,hr.put hb k1 ?_,?_⟩
  ·rw [hrun,hvx]
   simp [Builtin.copy_,run_underlying ht,dt hn,hlen,hfc2,hrs,goInt]
   first | exact hkn.symm | exact hkn | omega
  ·exact ⟨m,_,te,fr,k1,k2,de (hr.lt i m k1),by rw [ei]; exact k4,by rw [fg _ _ _ hl]; exact k5,hsp,k7⟩
  ·rw [ed]
   refine FRel.setVal ?_ hd (by simp only [VRel])
   exact hf.keep (Later.refl _) (fun t cs' hv=>a0 (hf.sepm t cs' i m hv k1)) (fun t cs' j m' _ hj hm=>absurd (ah hm) (by omega)) fun q hq=>⟨a0 ((hf.sepd q hq).1 i m k1),fun j m' hj hm=>absurd (ah hm) (by omega)⟩
theorem appz_done (hf:FRel E lo ν μ (sget s) a.tmps w) (hr:Rel E μ h w) {dst:Option Tmp} {r:Result Next} (hd:∀ x,dst=some x→x < a.tmps.size)
  {t u ty e:TypeId} {kq:IntKind} {i:TypeInfo} {z:List AVal} {x y v:AVal} {vx vy:Value} {h':Heap} (ht:E.P.underlying t=some (.slice e)) (hu:E.P.underlying u=some (.int kq)) (hi:E.P.info? e=some i) (hz:zeroOf E.P e=some z) (hzl:z.length=i.size) (h0:0 < i.size)
  (hx:VRel E μ x vx) (hy:VRel E μ y vy) (he:evExt (.appz i.size i.bytes z) [x,y] h=some (v,h'))
  (hrun:r=((Builtin.append_ #[t,u] ty #[vx,vy]).run E.P w).andThen fun v w'=>.ok (.value v) w') :
  OpDone E lo ν.ds μ w a dst r (.val v) s h':=by
 cases x with
 | slice ao n c=>?_
 | _=>simp [evExt] at he
 cases y with
 | int kd m=>?_
 | _=>simp [evExt] at he
 cases kd <;> simp only [evExt,reduceCtorEq] at he
 obtain ⟨i',zv,hi',hzv,hzt⟩:=info_zero hz
 rw [hi] at hi'; cases hi'
 simp only [VRel] at hy
 subst hy
 have hvx:∃ b cap,vx = .slice b n cap∧n≤cap∧∀ k,c=some k→cap=k:=by
  cases ao with
  | none=>simp only [VRel] at hx; obtain ⟨e1,e2,e3⟩:=hx; exact ⟨none,0,by rw [e3,e1],by omega,fun k hk=>by rw [e2] at hk; cases hk; rfl⟩
  | some p=>obtain ⟨j,o⟩:=p; simp only [VRel] at hx; obtain ⟨ad,cap,h1,_,_,h4,h5,_⟩:=hx; exact ⟨some ad,cap,h1,h5,h4⟩
 obtain ⟨b,cap,hvx,hcap,hck⟩:=hvx
 split at he
 ·rename_i hm
  subst hm
  cases he
  refine bp hf hr hd ?_ hx
  rw [hrun,hvx]
  have hw:IntKind.i64.wrap 0=0:=by decide
  cases b <;> simp [Builtin.append_,run_underlying ht,run_underlying hu,sizeOf,typeInfo,hi,asInt,asIntOf,hw,hcap,storeCells]
 ·rename_i hm
  split at he
  case h_2=>cases he
  rename_i old k hold
  split at he
  case isFalse=>cases he
  rename_i hh
  obtain ⟨hm0,hk,hb,h63⟩:=hh
  cases he
  obtain ⟨q,rfl⟩:=di (show 0≤m by omega)
  simp only [Int.toNat_natCast] at hk hb h63 ⊢
  have hcapk:=hck k rfl
  subst hcapk
  obtain ⟨lo1,n1,o1,o2,o3,o4,o5,o6⟩:=rowOf_rel hr hx hold
  simp only [alen] at o5
  subst o5
  have hfit:=growslice_fits (need:=n1+q) (old:=cap) (bytes:=i.bytes) hk hb
  have hq:q*i.bytes≤281474976710656:=by
   have:q*i.bytes≤(n1+q)*i.bytes:=Nat.mul_le_mul_right _ (by omega)
   omega
  have hgr:=Go.Lib.run_append_grow_zeros (P:=E.P) w t u ty e i zv .i64 kq ht hu hi hzv b n1 cap lo1 (by rw [← hvx]; exact o6 E.P w.drew rfl) q (by omega) h0 hk (by omega) hq hfit
  rw [hvx,hgr] at hrun
  obtain ⟨k2,k3⟩:=toAs_rel (E:=E) hzt μ
  obtain ⟨r1,r2⟩:=rep_rel (n:=q) k2 k3 hzl h0
  have hg:n1+q≤grownCap w (n1+q) cap e:=by simp [grownCap,Question.cut]
  have hzc:zv.cells.size=i.size:=by have:=k2.length; simp at this; omega
  have hzz:(Builtin.zeroCells zv.cells q).toList=((Array.range (q*i.size)).map fun j=>zv.cells[j % zv.cells.size]!).toList:=by unfold Builtin.zeroCells; rw [hzc]
  rw [← hzz] at r1
  generalize hZ:Builtin.zeroCells zv.cells q=Z at r1 hrun
  have hZs:Z.size=q*i.size:=by rw [← hZ]; simp [Builtin.zeroCells,hzc]
  generalize hcell:lo1.toArray++Z++Builtin.zeroCells zv.cells (grownCap w (n1+q) cap e - (n1+q))=C at hrun
  have hC:C.size=grownCap w (n1+q) cap e*i.size:=by
   rw [← hcell]
   simp [Builtin.zeroCells,o4,hZs,hzc]
   rw [← cz,← cz]; congr 1; omega
  have hcat:=o1.append r1
  have hlen:h.size=μ.length:=hr.len.symm
  rw [hlen]
  refine fp hf hr hd (.cells i.size (old++rep q z)) (.cells C e) ⟨w.heap.size,0,C.size,i.size⟩ rfl (w1:=w.drew.alloc (.cells C e)) hrun rfl rfl rfl rfl ?_ ?_
  ·refine ⟨⟨w.heap.size,0,C.size,i.size⟩,C,e,(0,0),by simp,rfl,by simp,rfl,?_,fun k v' hk=>⟨?_,?_⟩,fun _ off _=>by simp⟩
   ·have e1:=o1.length
    have e2:(rep q z).length=q*i.size:=by rw [rep,rep_length z _ hzl]
    simp only [bg,b8,e1,e2,o4,hC,← cz]
    exact Nat.mul_le_mul_right _ hg
   ·rcases ba.1 (aq hk) with hm' | hm'
    ·exact o2 _ hm'
    ·exact r2 _ hm'
   ·obtain ⟨u',hu',hr'⟩:=hcat.get hk
    refine ⟨u',?_,hr'.later (du μ _)⟩
    have hl2:=ah hu'
    rw [b8,← hcell,Array.getElem?_append_left (by simpa using hl2),← gl,Array.toList_append]
    exact hu'
  ·exact slice_new rfl hg (fun k hk=>by cases hk) (by simp [hC]) (grownCap_le_maxLen w (n1+q) cap e h63)
theorem clear_done (hf:FRel E lo ν μ (sget s) a.tmps w) (hr:Rel E μ h w) {dst:Option Tmp} {r:Result Next} (hd:∀ x,dst=some x→x < a.tmps.size)
  {t ty e:TypeId} {ez:Nat} {z:List AVal} {x v:AVal} {vx:Value} {h':Heap} (ht:E.P.underlying t=some (.slice e)) (hz:zeroOf E.P e=some z) (hzl:z.length=ez) (h0:0 < ez)
  (hx:VRel E μ x vx) (he:evExt (.clear ez z) [x] h=some (v,h'))
  (hrun:r=((Builtin.clear_ #[t] ty #[vx]).run E.P w).andThen fun v w'=>.ok (.value v) w') :
  OpDone E lo ν.ds μ w a dst r (.val v) s h':=by
 cases x with
 | slice ao n c=>?_
 | _=>simp [evExt] at he
 simp only [evExt] at he
 split at he
 ·rename_i hn0
  subst hn0
  cases he
  refine bp hf hr hd (v:=.tuple #[]) ?_ (by simp only [VRel]; exact ⟨#[],rfl,by simp [VRels]⟩)
  rw [hrun]
  obtain ⟨b,cap,hvx⟩:∃ b cap,vx = .slice b 0 cap:=by
   cases ao with
   | none=>simp only [VRel] at hx; exact ⟨none,0,hx.2.2⟩
   | some p=>obtain ⟨i,o⟩:=p; simp only [VRel] at hx; obtain ⟨ad,cap,h1,_⟩:=hx; exact ⟨some ad,cap,h1⟩
  rw [hvx]
  cases b <;> simp [Builtin.clear_,run_underlying ht]
 ·rename_i hn0
  split at he
  case h_2=>cases he
  rename_i i o
  split at he
  case h_2=>cases he
  rename_i e1 cs hg
  split at he
  case isFalse=>cases he
  rename_i hh
  obtain ⟨rfl,hb,hl⟩:=hh
  cases he
  simp only [VRel] at hx
  obtain ⟨ad,cap,hvx,hi,hA,hck,hcap,hsz⟩:=hx
  obtain ⟨m,cc,te,fr,k1,k2,k3,k4,k5,k6,k7⟩:=hr.obj i _ hg
  obtain ⟨x',k8,k9⟩:=hA (by omega)
  rw [k1] at k8; cases k8
  have:=k9 m rfl; subst this
  obtain ⟨zv,z1,z2,z3⟩:=run_zero (E:=E) hz μ w
  obtain ⟨q1,q2⟩:=rep_rel (n:=n) z2 z3 hzl h0
  have hlz:(rep n z).length=n*e1:=by rw [rep,rep_length z e1 hzl]
  have hzc:(Builtin.zeroCells zv.cells n)=(Array.range (n*e1)).map fun i=>zv.cells[i % zv.cells.size]! := by
   have:=z2.length
   simp at this
   unfold Builtin.zeroCells
   rw [← this,hzl]
  generalize hL:((Array.range (n*e1)).map fun i=>zv.cells[i % zv.cells.size]!).toList=l at q1
  have hzl2:(Builtin.zeroCells zv.cells n).toList=l:=by rw [hzc,hL]
  have hone:=gi q1 q2
  have hll:=q1.length
  have hrs:=eo (P:=E.P) (b:=m.blk) (e:=te) (fr:=fr) (a:=⟨m.blk,m.base+o,none⟩) rfl rfl l 0 cc w k3 (by simp; omega) (by rw [k4]; exact (k7 hb).lt) hone
  have hsp:=k6.splice q1 q2 (by rw [hlz]; exact hl) (by omega)
  refine ⟨.tuple #[],withBlock w m.blk (.cells (spliceA cc (m.base+o+0) l) te fr),μ,ν,rfl,.inl ?_,Step.put k1 (cw _ _) _,hr.put hb k1 ?_,?_⟩
  ·rw [hrun,hvx]
   obtain ⟨n',rfl⟩:∃ n',n=n'+1:=⟨n - 1,by omega⟩
   simp only [Builtin.clear_]
   simp [run_underlying ht,z1,hzl2,hrs]
  ·exact ⟨m,_,te,fr,k1,k2,de (hr.lt i m k1),by rw [ei]; exact k4,by rw [fg _ _ _ (by rw [hlz]; exact hl)]; exact k5,hsp,k7⟩
  ·rw [ed]
   refine FRel.setVal ?_ hd (by simp only [VRel]; exact ⟨#[],rfl,by simp [VRels]⟩)
   exact hf.keep (Later.refl _) (fun t cs' hv=>a0 (hf.sepm t cs' i m hv k1)) (fun t cs' j m' _ hj hm=>absurd (ah hm) (by omega)) fun q hq=>⟨a0 ((hf.sepd q hq).1 i m k1),fun j m' hj hm=>absurd (ah hm) (by omega)⟩
theorem le_grown (w:World) (need old:Nat) (e:TypeId):need≤grownCap w need old e:=by
 simp [grownCap,Question.cut]
theorem append_done (hf:FRel E lo ν μ (sget s) a.tmps w) (hr:Rel E μ h w) {dst:Option Tmp} {r:Result Next} (hd:∀ x,dst=some x→x < a.tmps.size)
  {t u ty e:TypeId} {i:TypeInfo} {z:Value} {x y v:AVal} {vx vy:Value} {h':Heap} (ht:E.P.underlying t=some (.slice e)) (hu:(∃ e',E.P.underlying u=some (.slice e'))∨E.P.underlying u=some .string) (hi:E.P.info? e=some i) (hz:i.zero=some z) (hzs:z.cells.size=i.size)
  (hx:VRel E μ x vx) (hy:VRel E μ y vy) (he:aAppend i.size i.bytes h x y=some (v,h'))
  (hrun:r=((Builtin.append_ #[t,u] ty #[vx,vy]).run E.P w).andThen fun v w'=>.ok (.value v) w') :
  OpDone E lo ν.ds μ w a dst r (.val v) s h':=by
 unfold aAppend at he
 cases x with
 | slice ao n0 c=>?_
 | _=>cases he
 simp only at he
 split at he
 case h_2=>cases he
 rename_i old new ho hn
 unfold aApp at he
 have hk:=hu
 obtain ⟨lo1,n1,o1,o2,o3,o4,o5,o6⟩:=rowOf_rel hr hx ho
 obtain ⟨ln,n2,p1,p2,p3,p4,p5,p6⟩:=rowOf_rel hr hy hn
 simp only [alen] at o5
 subst o5
 rw [← p5] at he
 have hsrc:Src E.P i.size u vy n2 ln w:=⟨hk,fun w'=>p3 E.P w',p6 E.P w rfl,p6 E.P w.drew rfl,p4,fun v hv=>by
  have:=gi p1 p2 v hv
  cases v <;> simp_all [one?,Value.oneCell']⟩
 split at he
 ·-- nothing is appended
  rename_i h0
  cases he
  subst h0
  have hl0:ln=[]:=a9 (by simpa using p4)
  subst hl0
  have:∃ b cap,vx = .slice b n1 cap∧n1≤cap:=by
   cases ao with
   | none=>simp only [VRel] at hx; obtain ⟨e1,_,e2⟩:=hx; exact ⟨none,0,by rw [e2,e1],by omega⟩
   | some io=>simp only [VRel] at hx; obtain ⟨ad,cap,e1,_,_,_,e2,_⟩:=hx; exact ⟨some ad,cap,e1,e2⟩
  obtain ⟨b,cap,rfl,hcap⟩:=this
  refine bp hf hr hd ?_ hx
  rw [hrun]
  rcases hk with ⟨e',hk⟩ | hk <;> (cases b <;> simp [Builtin.append_,run_underlying ht,run_underlying hk,sizeOf,typeInfo,hi,p3,hcap,p6,storeCells])
 ·rename_i h0
  split at he
  ·rename_i hh
   obtain ⟨hb,h63⟩:=hh
   have hcat:=o1.append p1
   have hcl:∀ (k:Nat) (v':AVal),(old++new)[k]? = some v'→v'.isOne=true:=by
    intro k v' hk
    rcases ba.1 (aq hk) with hm' | hm'
    ·exact o2 _ hm'
    ·exact p2 _ hm'
   have grow:∀ (b:Option Addr) (cap:Nat) (h1:Heap) (μ1:MM),vx = .slice b n1 cap→cap < n1+n2→Later μ μ1→Rel E μ1 h1 w→FRel E lo ν μ1 (sget s) a.tmps w →
     OpDone E lo ν.ds μ1 w a dst r (.val (.slice (some (h1.size,0)) (n1+n2) none)) s (h1.push (.cells i.size (old++new))):=by
    intro b cap h1 μ1 hvx hcap hl1 hr1 hf1
    have hfit:=growslice_fits (need:=n1+n2) (old:=cap) (bytes:=i.bytes) hcap hb
    have hgr:=run_append_grow_src (P:=E.P) w t u ty e i z ht hi hz b n1 cap lo1 (by rw [← hvx]; exact o6 E.P w.drew rfl) vy n2 ln hsrc hcap (by omega) hfit
    rw [hvx,hgr] at hrun
    have hg:=le_grown w (n1+n2) cap e
    generalize hcell:(lo1++ln).toArray++Builtin.zeroCells z.cells (grownCap w (n1+n2) cap e - (n1+n2))=C at hrun
    have hC:C.size=grownCap w (n1+n2) cap e*i.size:=by
     rw [← hcell]
     simp [Builtin.zeroCells,o4,p4,hzs]
     rw [← cz,← cz]; congr 1; omega
    have hlen:h1.size=μ1.length:=hr1.len.symm
    rw [hlen]
    refine fp hf1 hr1 hd (.cells i.size (old++new)) (.cells C e) ⟨w.heap.size,0,C.size,i.size⟩ rfl (w1:=w.drew.alloc (.cells C e)) hrun rfl rfl rfl rfl ?_ ?_
    ·refine ⟨⟨w.heap.size,0,C.size,i.size⟩,C,e,(0,0),by simp,rfl,by simp,rfl,?_,fun k v' hk=>?_,fun _ off _=>by simp⟩
     ·have e1:=o1.length
      have e2:=p1.length
      simp only [bg,b8,e1,e2,o4,p4,hC,← cz]
      exact Nat.mul_le_mul_right _ hg
     ·obtain ⟨u,hu',hr'⟩:=hcat.get hk
      refine ⟨hcl k v' hk,u,?_,(hr'.later hl1).later (du μ1 _)⟩
      rw [b8,← hcell,Array.getElem?_append_left (by simpa using ah hu')]
      simpa using hu'
    ·exact slice_new rfl hg (fun k hk=>by cases hk) (by simp [hC]) (grownCap_le_maxLen w (n1+n2) cap e h63)
   split at he
   ·-- nil
    cases he
    simp only [VRel] at hx
    obtain ⟨e1,_,e2⟩:=hx
    exact grow none 0 h μ (by rw [e2,e1]) (by omega) (Later.refl _) hr hf
   ·rename_i j o
    simp only [VRel] at hx
    obtain ⟨ad,cap,hvx,hj,hA,hck,hcap,hsz⟩:=hx
    split at he
    ·-- full
     rename_i hc
     cases he
     exact grow (some ad) cap h μ hvx (by have:=hck _ hc; omega) (Later.refl _) hr hf
    ·split at he
     ·rename_i hbr
      cases he
      obtain ⟨hbase,hrow⟩:=hbr
      unfold rowIs at hrow
      split at hrow
      case h_2=>cases hrow
      rename_i e' cs hg
      have he':e'=i.size:=by simpa using hrow
      subst he'
      obtain ⟨m,cc,te,fr,k1,k2,k3,k4,k5,k6,k7⟩:=hr.obj j _ hg
      by_cases hroom:n1+n2≤cap
      ·-- there is room: in its place
       obtain ⟨x',k8,k9⟩:=hA (by omega)
       rw [k1] at k8; cases k8
       have:=k9 m rfl; subst this
       have hs:=hsz m k1
       rw [k2] at hs
       have hle:m.base+o+n1*i.size+ln.length≤cc.size:=by
        rw [p4,k4,dx,← cz]
        exact cr (Nat.add_le_add_left (Nat.mul_le_mul_right _ hroom) _) hs
       have hone:=gi p1 p2
       have hrs:=eo (P:=E.P) (b:=m.blk) (e:=te) (fr:=fr) (a:=⟨m.blk,m.base+o+n1*i.size,none⟩) rfl rfl ln 0 cc w k3 (by simpa using hle) (by rw [k4]; exact (k7 hbase).lt) hone
       have hrun':r = .ok (.value (.slice (some ⟨m.blk,m.base+o,none⟩) (n1+n2) cap)) (withBlock w m.blk (.cells (spliceA cc (m.base+o+n1*i.size) ln) te fr)):=by
        rw [hrun,hvx]
        have e1:(⟨m.blk,m.base+o,none⟩:Addr).add (n1*i.size)=⟨m.blk,m.base+o+n1*i.size,none⟩:=add_plain _ _ _
        rcases hk with ⟨e'',hk⟩ | hk <;> (simp [Builtin.append_,run_underlying ht,run_underlying hk,sizeOf,typeInfo,hi,p3,hroom,p6,e1,hrs])
       have hnew:ORel E (μ.set j none++[some ⟨m.blk,m.base+o,m.size,m.esz⟩]) h.base μ.length (withBlock w m.blk (.cells (spliceA cc (m.base+o+n1*i.size) ln) te fr)) (.cells i.size (old++new)):=by
        have hold:∀ (k:Nat) (v':AVal),old[k]? = some v'→∃ u,cc[m.base+o+k]? = some u∧VRel E μ v' u:=by
         intro k v' hk'
         have hn0:n1≠0:=by
          intro h0'; subst h0'
          have:=ah hk'
          rw [o1.length,o4] at this; omega
         simp only [rowOf] at ho
         rw [if_neg hn0,hg] at ho
         simp only at ho
         split at ho
         ·cases ho
          have hkk:k < n1*i.size:=by
           have:=ah hk'
           simp at this; omega
          rw [b7 hkk,b0] at hk'
          obtain ⟨_,u,hu1,hu2⟩:=k6 _ v' hk'
          exact ⟨u,by rw [← hu1]; congr 1; omega,hu2⟩
         ·cases ho
        have hlo:old.length=n1*i.size:=by rw [o1.length,o4]
        have hln:new.length=n2*i.size:=by rw [p1.length,p4]
        refine ⟨⟨m.blk,m.base+o,m.size,m.esz⟩,_,te,fr,?_,k2,de (hr.lt j m k1),by rw [ei]; exact k4,?_,fun k v' hk'=>⟨hcl k v' hk',?_⟩,fun _=>k7 hbase⟩
        ·rw [ak (by simp)]; simp
        ·simp only [bg,hlo,hln]
         rw [p4,k4] at hle; omega
        ·rw [spliceA_get ln cc _ _ hle]
         by_cases hk2:k < n1*i.size
         ·rw [ai (by omega)] at hk'
          obtain ⟨u,hu1,hu2⟩:=hold k v' hk'
          rw [if_neg (by simp only; omega)]
          exact ⟨u,hu1,(hu2.later (later_set μ j)).later (du _ _)⟩
         ·rw [ak (by omega),hlo] at hk'
          obtain ⟨u,hu1,hu2⟩:=p1.get hk'
          have:=ah hu1
          rw [if_pos (by simp only; omega)]
          refine ⟨u,?_,(hu2.later (later_set μ j)).later (du _ _)⟩
          rw [← hu1]; congr 1; simp only; omega
       have ht1:=hr.take (m':=⟨m.blk,m.base+o,m.size,m.esz⟩) hbase k1 rfl hnew
       have hwm:((h.put j .dead).push (.cells i.size (old++new))).wmin≤j:=cw _ _
       have hst:Step (fun k=>lo≤k) _ μ w _ (withBlock w m.blk (.cells (spliceA cc (m.base+o+n1*i.size) ln) te fr)) :=
        Step.take (X:=fun k=>lo≤k) (m':=⟨m.blk,m.base+o,m.size,m.esz⟩) (.cells (spliceA cc (m.base+o+n1*i.size) ln) te fr) k1 rfl hwm
       refine ⟨_,_,_,ν,rfl,.inl hrun',hst,ht1,?_⟩
       rw [ed]
       refine FRel.setVal ?_ hd ?_
       ·refine hf.keep hst.later (fun t cs' hv=>a0 (hf.sepm t cs' j m hv k1)) (fun t cs' q m' hv hq hm'=>?_) fun r' hr'=>⟨a0 ((hf.sepd r' hr').1 j m k1),fun q m' hq hm'=>?_⟩
        ·rcases en hm' with b | ⟨_,b⟩
         ·exact absurd (ah b) (by simp; omega)
         ·cases b; exact hf.sepm t cs' j m hv k1
        ·rcases en hm' with b | ⟨_,b⟩
         ·exact absurd (ah b) (by simp; omega)
         ·cases b; exact (hf.sepd r' hr').1 j m k1
       ·have hlen:h.size=μ.length:=hr.len.symm
        rw [hlen]
        simp only [VRel]
        refine ⟨_,cap,rfl,⟨by simp,hj.2⟩,fun _=>⟨some ⟨m.blk,m.base+o,m.size,m.esz⟩,by rw [ak (by simp)]; simp,fun m' hm'=>by cases hm'; rfl⟩,(fun k hk=>by cases hk),hroom,fun m' hm'=>?_⟩
        rw [ak (by simp)] at hm'
        simp at hm'; subst hm'
        simp only [k2,Nat.add_zero]
        exact hs
      ·-- there is none
       have hk1:=hr.kill j
       have hfk:FRel E lo ν (μ.set j none) (sget s) a.tmps w:=hf.keep (later_set μ j) (fun _ _ _=>rfl) (fun t cs' q m' _ hq hm'=>absurd (ah hm') (by simp; omega)) fun _ _=>⟨rfl,fun q m' hq hm'=>absurd (ah hm') (by simp; omega)⟩
       obtain ⟨v',w',μ',ν',q0,q1,q2,q3,q4⟩:=grow (some ad) cap (h.put j .dead) (μ.set j none) hvx (by omega) (later_set μ j) hk1 hfk
       have hsz':(h.put j .dead).size=h.size:=by simp [Heap.put,Heap.size]
       rw [hsz'] at q4
       refine ⟨v',w',μ',ν',q0,q1,?_,q3,q4⟩
       exact (Step.kill (X:=fun k=>lo≤k) (wm:=j) μ w (aj _)).trans q2 (cw _ _)
     ·cases he
  ·cases he
end
end Go.Abs

namespace Go.Abs
section
variable {E:Env} {lo:Nat} {ν:Fr} {μ:MM} {s:Slots} {h:Heap} {a:Act} {w:World}
def FitV (n:Option Nat) (x:AVal):Prop:=match n with
 | some _=>∃ cs,x = .agg cs
 | none=>x.isOne=true
theorem part_fit {cs:List AVal} {o:Nat} {n:Option Nat} {r:AVal} (h1:∀ x ∈ cs,x.isOne=true) (h:Abs.part cs o n=some r):FitV n r:=by
 cases n with
 | none=>simp only [Abs.part] at h; exact h1 _ (aq h)
 | some k =>
  simp only [Abs.part] at h
  split at h
  ·cases h; exact ⟨_,rfl⟩
  ·cases h
theorem et:∀ {ks:List CK} {as:List AVal},areKeys ks as=true→as.length=ks.length
 | [],[],_=>rfl
 | _ :: ks,_ :: as,h=>by
  simp only [areKeys,ap] at h
  simp [et h.2]
 | [],_ :: _,h=>by simp [areKeys] at h
 | _ :: _,[],h=>by simp [areKeys] at h
theorem gp:∀ {k1 k2:List CK} {as:List AVal},areKeys (k1++k2) as=true→areKeys k1 (as.take k1.length)=true∧areKeys k2 (as.drop k1.length)=true
 | [],k2,as,h=>by simpa [areKeys] using h
 | c :: k1,k2,[],h=>by simp [areKeys] at h
 | c :: k1,k2,a :: as,h=>by
  simp only [fe,areKeys,ap] at h
  obtain ⟨h1,h2⟩:=gp h.2
  simp only [bo,List.take_succ_cons,List.drop_succ_cons,areKeys,ap]
  exact ⟨⟨h.1,h1⟩,h2⟩
theorem akeyL_split:∀ (k:Nat) {as bs:List AVal} {r:Bool},k≤as.length→as.length=bs.length→akeyL as bs=some r→∃ r1,akeyL (as.take k) (bs.take k)=some r1∧(r1=true→akeyL (as.drop k) (bs.drop k)=some r)∧(r1=false→r=false)
 | 0,as,bs,r,_,_,h=>⟨true,by simp [akeyL],fun _=>by simpa using h,fun e=>by cases e⟩
 | k+1,[],bs,r,hk,_,_=>by simp at hk
 | k+1,a :: as,[],r,_,hl,_=>by simp at hl
 | k+1,a :: as,b :: bs,r,hk,hl,h=>by
  simp only [akeyL] at h
  cases hab:akey1 a b with
  | none=>rw [hab] at h; cases h
  | some q =>
   rw [hab] at h
   cases q with
   | false =>
    cases h
    exact ⟨false,by simp [akeyL,hab],(fun e=>by cases e),(fun _=>rfl)⟩
   | true =>
    obtain ⟨r1,h1,h2,h3⟩:=akeyL_split k (by simpa using hk) (by simpa using hl) h
    exact ⟨r1,by simp [akeyL,hab,h1],h2,h3⟩
def EqOK (E:Env) (d:Nat) (t:TypeId) (l:List CK):Prop :=
 ∀ (μ:MM) (w:World) (n:Option Nat) (x y:AVal) (u v:Value) (as bs:List AVal) (r:Bool),partT E.P t=some n→FitV n x→FitV n y→VRel E μ x u→VRel E μ y v→x.cells? = some as→y.cells? = some bs →
  as.length=bs.length→areKeys l as=true→akeyL as bs=some r→(Op.equalIn d t u v).run E.P w = .ok r w
theorem eq_one {d:Nat} {t:TypeId} {c:CK} {l:List CK} (hl:l=[c]) (ht:(c = .b∧E.P.underlying t=some .bool)∨(c = .i∧∃ k,E.P.underlying t=some (.int k))∨(c = .s∧E.P.underlying t=some .string)):EqOK E (d+1) t l:=by
 intro μ w n x y u v as bs r hn fx fy hx hy cx cy hlen hk hr
 subst hl
 have hn0:n=none:=by
  unfold partT at hn
  rcases ht with ⟨_,ht⟩ | ⟨_,k,ht⟩ | ⟨_,ht⟩ <;> (rw [ht] at hn; simp at hn; simp [← hn])
 subst hn0
 have one:∀ {z:AVal} {zs:List AVal},FitV none z→z.cells? = some zs→zs=[z]:=by
  intro z zs hz hc
  have hz:z.isOne=true:=hz
  cases z <;> simp [AVal.cells?,AVal.isOne] at hc hz <;> exact hc.symm
 have e1:=one fx cx
 have e2:=one fy cy
 subst e1; subst e2
 simp only [areKeys,Bool.and_true] at hk
 simp only [akeyL] at hr
 have hr2:akey1 x y=some r:=by
  cases hab:akey1 x y with
  | none=>rw [hab] at hr; cases hr
  | some q =>
   rw [hab] at hr
   cases q with
   | false=>exact hr
   | true=>exact hr
 clear hr
 rcases ht with ⟨rfl,ht⟩ | ⟨rfl,k,ht⟩ | ⟨rfl,ht⟩
 ·cases x <;> simp only [CK.is,av] at hk
  cases y <;> simp only [akey1,reduceCtorEq] at hr2
  simp only [VRel] at hx hy
  subst hx; subst hy
  injection hr2 with hr2
  rw [run_equalIn_bool' w d t _ _ ht,← hr2]
  congr 1
 ·cases x <;> simp only [CK.is,av] at hk
  cases y <;> simp only [akey1,reduceCtorEq] at hr2
  simp only [VRel] at hx hy
  subst hx; subst hy
  split at hr2
  ·rename_i hkk
   subst hkk
   injection hr2 with hr2
   rw [run_equalIn_int w d t _ _ _ _ ht,← hr2]
   congr 1
  ·cases hr2
 ·cases x <;> simp only [CK.is,av] at hk
  cases y <;> simp only [akey1,reduceCtorEq] at hr2
  simp only [VRel] at hx hy
  subst hx; subst hy
  injection hr2 with hr2
  rw [run_equalIn_string w d t _ _ ht,← hr2]
  congr 1
  rw [Bool.eq_iff_iff]; simp [ByteArray.toList_eq]
theorem cells_part {cs:List AVal} {o k:Nat} {n:Option Nat} {r:AVal} (h1:∀ x ∈ cs,x.isOne=true) (hk:n=some k∨(n=none∧k=1)) (h:Abs.part cs o n=some r):r.cells? = some ((cs.drop o).take k):=by
 rcases hk with rfl | ⟨rfl,rfl⟩
 ·simp only [Abs.part] at h
  split at h
  ·cases h; rfl
  ·cases h
 ·simp only [Abs.part] at h
  have h2:=h1 _ (aq h)
  have h3:(cs.drop o).take 1=[r]:=by
   have hlt:=ah h
   rw [List.drop_eq_getElem_cons hlt,List.take_succ_cons]
   rw [ag hlt] at h
   simp [cd h]
  rw [h3]
  cases r <;> simp [AVal.cells?,AVal.isOne] at h2 ⊢
theorem part_at {cs:List AVal} {o k:Nat} {n:Option Nat} (hk:n=some k∨(n=none∧k=1)) (ho:o+k≤cs.length):∃ r,Abs.part cs o n=some r:=by
 rcases hk with rfl | ⟨rfl,rfl⟩
 ·exact ⟨_,by simp only [Abs.part]; rw [if_pos ho]⟩
 ·exact ⟨_,by simp only [Abs.part]; exact ag (by omega)⟩
theorem ckOf_part {P:Program} {n:Nat} {t:TypeId} {l:List CK} (h:ckOf P n t=some l) (hs:sizeT P t=some l.length):∃ m,partT P t=some m∧(m=some l.length∨(m=none∧l.length=1)):=by
 cases n with
 | zero=>simp [ckOf] at h
 | succ n =>
  unfold partT
  simp only [ckOf] at h
  split at h <;> (try cases h)
  ·rename_i ht; rw [ht]; exact ⟨none,rfl,.inr ⟨rfl,rfl⟩⟩
  ·rename_i ht; rw [ht]; exact ⟨none,rfl,.inr ⟨rfl,rfl⟩⟩
  ·rename_i ht; rw [ht]; exact ⟨none,rfl,.inr ⟨rfl,rfl⟩⟩
  ·rename_i ht; rw [ht]; exact ⟨some l.length,by simp [hs],.inl rfl⟩
  ·rename_i ht; rw [ht]; exact ⟨some l.length,by simp [hs],.inl rfl⟩
theorem eq_fields {d:Nat} {g:TypeId→Option (List CK)} (hg:∀ t l,g t=some l→EqOK E d t l) (hgp:∀ t l,g t=some l→sizeT E.P t=some l.length→∃ m,partT E.P t=some m∧(m=some l.length∨(m=none∧l.length=1)))
  {A B:List AVal} {xs ys:Array Value} (hA:VRels E μ A xs.toList) (hB:VRels E μ B ys.toList) (hA1:∀ x ∈ A,x.isOne=true) (hB1:∀ x ∈ B,x.isOne=true) (hlen:A.length=B.length) :
  ∀ (fs:List Field) (off:Nat) (l:List CK) (r:Bool),ckFields g E.P off fs=some l→areKeys l (A.drop off)=true→akeyL (A.drop off) (B.drop off)=some r→(Op.eqFields d xs ys fs).run E.P w = .ok r w
 | [],off,l,r,hl,hk,hr=>by
  simp only [ckFields] at hl; cases hl
  have h1:=et hk
  have e1:A.drop off=[]:=a9 (by simpa using h1)
  rw [e1] at hr
  cases hb:B.drop off with
  | nil=>rw [hb] at hr; simp [akeyL] at hr; subst hr; simp [Op.eqFields]
  | cons b bs=>rw [hb] at hr; simp [akeyL] at hr
 | f :: fs,off,l,r,hl,hk,hr=>by
  simp only [ckFields] at hl
  split at hl
  case h_2=>cases hl
  rename_i l1 hl1
  split at hl
  case isFalse=>cases hl
  rename_i hh
  obtain ⟨ho,hn,hs,h0⟩:=hh
  rw [ae] at hl
  obtain ⟨l2,hl2,rfl⟩:=hl
  obtain ⟨k1,k2⟩:=gp hk
  have hkl:=et hk
  simp only [gd,bg] at hkl
  obtain ⟨m,hm,hmk⟩:=hgp f.type l1 hl1 hs
  have hoff:off+l1.length≤A.length:=by omega
  obtain ⟨x,hx⟩:=part_at (cs:=A) (o:=off) hmk hoff
  obtain ⟨y,hy⟩:=part_at (cs:=B) (o:=off) hmk (by omega)
  obtain ⟨u,p1,q1⟩:=part_rel w hm hA hA1 hx
  obtain ⟨v,p2,q2⟩:=part_rel w hm hB hB1 hy
  obtain ⟨r1,s1,s2,s3⟩:=akeyL_split l1.length (by simp; omega) (by simp; omega) hr
  have he:=hg f.type l1 hl1 μ w m x y u v _ _ r1 hm (part_fit hA1 hx) (part_fit hB1 hy) q1 q2 (cells_part hA1 hmk hx) (cells_part hB1 hmk hy) (by simp; omega) k1 s1
  rw [← ho] at p1 p2
  simp only [Op.eqFields,hn,ne_eq,not_false_eq_true,if_true,Sem.run_bind,p1,p2,he,Result.andThen_ok]
  cases r1 with
  | false=>rw [s3 rfl]; simp
  | true =>
   have:=eq_fields hg hgp hA hB hA1 hB1 hlen fs (off+l1.length) l2 r hl2 (by rw [fj] at k2; exact k2) (by have:=s2 rfl; rwa [fj,fj] at this)
   simpa using this
theorem eq_items {d:Nat} {e:TypeId} {le:List CK} (he:EqOK E d e le) {m:Option Nat} (hm:partT E.P e=some m) (hmk:m=some le.length∨(m=none∧le.length=1)) (h0:0 < le.length) (hc:E.P.cellsOf e=le.length)
  {A B:List AVal} {xs ys:Array Value} (hA:VRels E μ A xs.toList) (hB:VRels E μ B ys.toList) (hA1:∀ x ∈ A,x.isOne=true) (hB1:∀ x ∈ B,x.isOne=true) (hlen:A.length=B.length) :
  ∀ (k j:Nat) (r:Bool),areKeys (List.replicate k le).flatten (A.drop (j*le.length))=true→akeyL (A.drop (j*le.length)) (B.drop (j*le.length))=some r →
   (Op.eqItems d e (E.P.cellsOf e) xs ys (List.range' j k)).run E.P w = .ok r w
 | 0,j,r,hk,hr=>by
  have h1:=et hk
  have e1:A.drop (j*le.length)=[]:=a9 (by simpa using h1)
  rw [e1] at hr
  cases hb:B.drop (j*le.length) with
  | nil=>rw [hb] at hr; simp [akeyL] at hr; subst hr; simp [Op.eqItems]
  | cons b bs=>rw [hb] at hr; simp [akeyL] at hr
 | k+1,j,r,hk,hr=>by
  rw [List.replicate_succ,List.flatten_cons] at hk
  obtain ⟨k1,k2⟩:=gp hk
  have hkl:=et hk
  simp only [gd,bg] at hkl
  have hoff:j*le.length+le.length≤A.length:=by omega
  obtain ⟨x,hx⟩:=part_at (cs:=A) (o:=j*le.length) hmk hoff
  obtain ⟨y,hy⟩:=part_at (cs:=B) (o:=j*le.length) hmk (by omega)
  obtain ⟨u,p1,q1⟩:=part_rel w hm hA hA1 hx
  obtain ⟨v,p2,q2⟩:=part_rel w hm hB hB1 hy
  obtain ⟨r1,s1,s2,s3⟩:=akeyL_split le.length (by simp; omega) (by simp; omega) hr
  have hq:=he μ w m x y u v _ _ r1 hm (part_fit hA1 hx) (part_fit hB1 hy) q1 q2 (cells_part hA1 hmk hx) (cells_part hB1 hmk hy) (by simp; omega) k1 s1
  simp only [List.range'_succ,Op.eqItems,hc,Sem.run_bind,p1,p2,hq,Result.andThen_ok]
  cases r1 with
  | false=>rw [s3 rfl]; simp
  | true =>
   have e1:j*le.length+le.length=(j+1)*le.length:=by rw [cz,Nat.one_mul]
   have:=eq_items he hm hmk h0 hc hA hB hA1 hB1 hlen k (j+1) r (by rw [fj,e1] at k2; exact k2) (by have:=s2 rfl; rwa [fj,fj,e1] at this)
   rw [hc] at this
   simpa using this
theorem eq_ck:∀ (n:Nat) (t:TypeId) (l:List CK),ckOf E.P n t=some l→∀ d,EqOK E (d+n) t l
 | 0,t,l,h,d=>by simp [ckOf] at h
 | n+1,t,l,h,d=>by
  have h0:=h
  simp only [ckOf] at h
  split at h <;> (try cases h)
  ·rename_i ht; exact eq_one rfl (.inl ⟨rfl,ht⟩)
  ·rename_i ht; exact eq_one rfl (.inr (.inl ⟨rfl,_,ht⟩))
  ·rename_i ht; exact eq_one rfl (.inr (.inr ⟨rfl,ht⟩))
  ·rename_i fs ht
   split at h
   ·cases h
   rename_i hst
   intro μ w m x y u v as bs r hm fx fy hx hy cx cy hlen hk hr
   have hmm:∃ k,m=some k:=by
    unfold partT at hm
    rw [ht] at hm
    simp only [ae] at hm
    obtain ⟨k,_,rfl⟩:=hm
    exact ⟨k,rfl⟩
   obtain ⟨k,rfl⟩:=hmm
   obtain ⟨A,rfl⟩:=fx
   obtain ⟨B,rfl⟩:=fy
   simp only [AVal.cells?] at cx cy; cases cx; cases cy
   simp only [VRel] at hx hy
   obtain ⟨xs,rfl,hA,hA1⟩:=hx
   obtain ⟨ys,rfl,hB,hB1⟩:=hy
   have hfs:E.P.fieldsOf t=fs:=by simp [Program.fieldsOf,ht]
   have:=eq_fields (d:=d+n) (w:=w) (g:=ckOf E.P n) (fun t l h=>eq_ck n t l h d) (fun t l h hs=>ckOf_part h hs) hA hB hA1 hB1 hlen fs.toList 0 l r h (by simpa using hk) (by simpa using hr)
   rw [show d+(n+1)=(d+n)+1 from rfl,run_equalIn_struct w (d+n) t xs ys (by rw [hfs]; exact ht) (by simpa using hst),hfs]
   exact this
  ·rename_i k e ht
   split at h
   case h_2=>cases h
   rename_i le hle
   split at h
   case isFalse=>cases h
   rename_i hs
   cases h
   intro μ w m x y u v as bs r hm fx fy hx hy cx cy hlen hk hr
   have hmm:∃ k,m=some k:=by
    unfold partT at hm
    rw [ht] at hm
    simp only [ae] at hm
    obtain ⟨k,_,rfl⟩:=hm
    exact ⟨k,rfl⟩
   obtain ⟨q,rfl⟩:=hmm
   obtain ⟨A,rfl⟩:=fx
   obtain ⟨B,rfl⟩:=fy
   simp only [AVal.cells?] at cx cy; cases cx; cases cy
   simp only [VRel] at hx hy
   obtain ⟨xs,rfl,hA,hA1⟩:=hx
   obtain ⟨ys,rfl,hB,hB1⟩:=hy
   obtain ⟨m',hm',hmk⟩:=ckOf_part hle hs.1
   have hinfo:∃ i,E.P.info? e=some i∧i.size=le.length:=by
    have:=hs.1
    unfold sizeT at this
    rw [ae] at this
    exact this
   obtain ⟨i,hi,hisz⟩:=hinfo
   have hc:E.P.cellsOf e=le.length:=by simp [Program.cellsOf,hi,hisz]
   have:=eq_items (w:=w) (eq_ck n e le hle d) hm' hmk hs.2 hc hA hB hA1 hB1 hlen k 0 r (by simpa using hk) (by simpa using hr)
   rw [show d+(n+1)=(d+n)+1 from rfl,run_equalIn_array w (d+n) xs ys ht hi,List.range_eq_range']
   exact this
theorem key_ck {P:Program} {t:TypeId} {kn:KeyT} (h:keyT P t=some kn):(∃ c,kn = .one c∧ckOf P 2 t=some [c]∧partT P t=some none)∨(∃ l m,kn = .agg l∧ckOf P 2 t=some l∧(partT P t=some (some m)∨partT P t=none)):=by
 unfold keyT at h
 split at h
 ·cases h
 split at h <;> (try cases h)
 ·rename_i ht; exact .inl ⟨.b,rfl,by simp [ckOf,ht],by simp [partT,ht]⟩
 ·rename_i ht; exact .inl ⟨.i,rfl,by simp [ckOf,ht],by simp [partT,ht]⟩
 ·rename_i ht; exact .inl ⟨.s,rfl,by simp [ckOf,ht],by simp [partT,ht]⟩
 ·rename_i ht
  rw [ae] at h
  obtain ⟨l,hl,rfl⟩:=h
  cases hs:sizeT P t with
  | none=>exact .inr ⟨l,0,rfl,hl,.inr (by simp [partT,ht,hs])⟩
  | some m=>exact .inr ⟨l,m,rfl,hl,.inl (by simp [partT,ht,hs])⟩
theorem key_size {P:Program} {t:TypeId} {kn:KeyT} (h:keyT P t=some kn):sizeT P t≠none:=by
 unfold keyT at h
 split at h
 ·cases h
 ·assumption
theorem key_eq {t:TypeId} {kn:KeyT} {x y:AVal} {u v:Value} {r:Bool} (hk:keyT E.P t=some kn) (hx:VRel E μ x u) (hy:VRel E μ y v) (hkx:isKey kn x=true) (hr:akey x y=some r) (w:World) :
  (Op.equal t u v).run E.P w = .ok r w:=by
 rcases key_ck hk with ⟨c,rfl,hc,hp⟩ | ⟨l,m,rfl,hc,hp⟩
 ·have he:=eq_ck 2 t _ hc 9998
  have h1:x.isOne=true∧x.cells? = some [x]:=by cases x <;> cases c <;> simp [isKey,CK.is] at hkx <;> simp [AVal.isOne,AVal.cells?]
  have h2:akey1 x y=some r:=by
   cases x <;> first | exact hr | (simp [AVal.isOne] at h1)
  have h3:y.isOne=true∧y.cells? = some [y]:=by
   cases x <;> cases y <;> simp [akey1] at h2 <;> simp [AVal.isOne,AVal.cells?]
  refine he μ w none x y u v [x] [y] r hp h1.1 h3.1 hx hy h1.2 h3.2 rfl (by simpa [areKeys,isKey] using hkx) ?_
  simp only [akeyL,h2]
  cases r <;> rfl
 ·have he:=eq_ck 2 t _ hc 9998
  have hp':partT E.P t=some (some m):=by
   rcases hp with hp | hp
   ·exact hp
   ·exfalso
    have:∃ ty,E.P.underlying t=some ty:=by
     cases hu:E.P.underlying t with
     | none=>simp [keyT,hu] at hk
     | some ty=>exact ⟨ty,rfl⟩
    obtain ⟨ty,hty⟩:=this
    unfold partT at hp
    rw [hty] at hp
    split at hp
    ·rw [Option.map_eq_none_iff] at hp; exact key_size hk hp
    ·rw [Option.map_eq_none_iff] at hp; exact key_size hk hp
    ·cases hp
    ·rename_i e; cases e
  cases x <;> simp only [isKey,av] at hkx
  cases y <;> simp only [akey,akey1,reduceCtorEq] at hr
  split at hr
  ·rename_i hlen
   exact he μ w (some m) _ _ u v _ _ r hp' ⟨_,rfl⟩ ⟨_,rfl⟩ hx hy rfl rfl hlen hkx hr
  ·cases hr
theorem key_check {t:TypeId} {kn:KeyT} {x:AVal} {u:Value} (hk:keyT E.P t=some kn) (hx:VRel E μ x u) (hkx:isKey kn x=true) (em:Bool) (n:Nat) (w:World):(Instr.checkKey em (n+2) t u).run E.P w = .ok () w:=by
 have basic:∀ (n:Nat) (t:TypeId) (u:Value) (w:World),(E.P.underlying t=some .bool∨(∃ k,E.P.underlying t=some (.int k))∨E.P.underlying t=some .string)→(Instr.checkKey em (n+1) t u).run E.P w = .ok () w:=by
  intro n t u w ht
  rcases ht with ht | ⟨k,ht⟩ | ht <;> (unfold Instr.checkKey; simp [run_underlying ht])
 unfold keyT at hk
 split at hk
 ·cases hk
 split at hk <;> (try cases hk)
 ·rename_i ht; exact basic _ _ _ _ (.inl ht)
 ·rename_i k ht; exact basic _ _ _ _ (.inr (.inl ⟨_,ht⟩))
 ·rename_i ht; exact basic _ _ _ _ (.inr (.inr ht))
 ·rename_i fs ht
  rw [ae] at hk
  obtain ⟨l,hl,rfl⟩:=hk
  simp only [ckOf,ht] at hl
  split at hl
  ·cases hl
  cases x <;> simp only [isKey,av] at hkx
  rename_i A
  simp only [VRel] at hx
  obtain ⟨xs,rfl,hA,hA1⟩:=hx
  rw [show n+2=(n+1)+1 from rfl,Instr.checkKey]
  simp only [Sem.run_bind,run_underlying ht,Result.andThen_ok]
  rw [← Array.forIn_toList]
  have key:∀ (fs:List Field) (off:Nat) (l:List CK),ckFields (ckOf E.P 1) E.P off fs=some l→areKeys l (A.drop off)=true →
    (forIn fs PUnit.unit fun f r=>do
     if f.name ≠ "_" then do
      let a ← Go.part f.type xs f.offset
      Instr.checkKey em (n+1) f.type a
      pure (ForInStep.yield PUnit.unit)
     else pure (ForInStep.yield PUnit.unit):Sem PUnit).run E.P w = .ok () w:=by
   intro fs
   induction fs with
   | nil=>intro off l _ _; simp
   | cons f fs ih =>
    intro off l hl hk
    simp only [ckFields] at hl
    split at hl
    case h_2=>cases hl
    rename_i l1 hl1
    split at hl
    case isFalse=>cases hl
    rename_i hh
    obtain ⟨ho,hn,hs,h0⟩:=hh
    rw [ae] at hl
    obtain ⟨l2,hl2,rfl⟩:=hl
    obtain ⟨k1,k2⟩:=gp hk
    have hkl:=et hk
    simp only [gd,bg] at hkl
    obtain ⟨m,hm,hmk⟩:=ckOf_part hl1 hs
    obtain ⟨x,hx⟩:=part_at (cs:=A) (o:=off) hmk (by omega)
    obtain ⟨u,p1,_⟩:=part_rel w hm hA hA1 hx
    rw [← ho] at p1
    have hb:(Instr.checkKey em (n+1) f.type u).run E.P w = .ok () w:=by
     apply basic
     simp only [ckOf] at hl1
     split at hl1 <;> (try cases hl1)
     ·exact .inl (by assumption)
     ·exact .inr (.inl ⟨_,by assumption⟩)
     ·exact .inr (.inr (by assumption))
     ·rename_i fs2 hu
      split at hl1
      ·cases hl1
      ·cases hfs:fs2.toList with
       | nil=>rw [hfs] at hl1; simp [ckFields] at hl1; subst hl1; simp at h0
       | cons q qs=>rw [hfs] at hl1; simp [ckFields] at hl1
    simp only [List.forIn_cons,Sem.run_bind,hn,ne_eq,not_false_eq_true,if_true,p1,hb,Result.andThen_ok,Sem.run_pure]
    exact ih (off+l1.length) l2 hl2 (by rw [fj] at k2; exact k2)
  have:=key fs.toList 0 l hl (by simpa using hkx)
  have h2:∀ (S:Sem PUnit),S.run E.P w = .ok () w→(S.run E.P w).andThen (fun _ w'=>Result.ok () w') = .ok () w:=fun S h=>by rw [h]; rfl
  exact h2 _ (by simpa using this)
def Found (E:Env) (μ:MM) (i:Nat) (res:Option (Nat × AVal)) (r:Option (Nat × Value)):Prop :=
 match res,r with
 | none,none=>True
 | some (j,v),some (j',v')=>j'=i+j∧VRel E μ v v'
 | _,_=>False
def Entries (E:Env) (μ:MM) (es:List (AVal × AVal × Nat)) (l:List MapEntry):Prop :=
 l.length=es.length∧∀ (k:Nat) (x:AVal × AVal × Nat),es[k]? = some x→∃ y:MapEntry,l[k]? = some y∧VRel E μ x.1 y.key∧VRel E μ x.2.1 y.val∧y.born=x.2.2
theorem Entries.cons {x:AVal × AVal × Nat} {es:List (AVal × AVal × Nat)} {l:List MapEntry} (h:Entries E μ (x :: es) l):∃ y l',l=y :: l'∧VRel E μ x.1 y.key∧VRel E μ x.2.1 y.val∧Entries E μ es l':=by
 obtain ⟨h1,h2⟩:=h
 cases l with
 | nil=>simp at h1
 | cons y l =>
  obtain ⟨y',e,h3,h4,_⟩:=h2 0 x rfl
  simp at e; subst e
  exact ⟨y,l,rfl,h3,h4,by simpa using h1,fun k z hz=>by simpa using h2 (k+1) z (by simpa using hz)⟩
theorem key_cases {x y:AVal} {r:Bool} (h:akey x y=some r):(∃ a b,x = .str a∧y = .str b∧r=decide (a=b))∨(∃ k a b,x = .int k a∧y = .int k b∧r=decide (a=b))∨(∃ a b,x = .bool a∧y = .bool b∧r=decide (a=b))∨∃ a b,x = .agg a∧y = .agg b:=by
 unfold akey at h
 split at h
 ·exact .inr (.inr (.inr ⟨_,_,rfl,rfl⟩))
 ·unfold akey1 at h
  split at h
  ·cases h; exact .inl ⟨_,_,rfl,rfl,rfl⟩
  ·split at h
   ·rename_i e; subst e; cases h; exact .inr (.inl ⟨_,_,_,rfl,rfl,rfl⟩)
   ·cases h
  ·cases h; exact .inr (.inr (.inl ⟨_,_,rfl,rfl,rfl⟩))
  ·cases h
theorem sameNow_rel {d:TypeDesc} {x y:AVal} {u v:Value} {b r:Bool} (hx:VRel E μ x u) (hy:VRel E μ y v) (hs:Instr.sameNow d u v=some b) (hr:akey x y=some r):b=r:=by
 rcases key_cases hr with ⟨p,q,rfl,rfl,rfl⟩ | ⟨k,p,q,rfl,rfl,rfl⟩ | ⟨p,q,rfl,rfl,rfl⟩ | ⟨p,q,rfl,rfl⟩
 ·simp only [VRel] at hx hy; subst hx; subst hy
  cases d <;> simp only [Instr.sameNow,reduceCtorEq] at hs
  injection hs with hs
  rw [← hs,Bool.eq_iff_iff,MapKept.bytes_beq]; simp
 ·simp only [VRel] at hx hy; subst hx; subst hy
  cases d <;> simp only [Instr.sameNow,reduceCtorEq] at hs
  simp at hs
  rw [← hs,Bool.eq_iff_iff]; simp
 ·simp only [VRel] at hx hy; subst hx; subst hy
  cases d <;> simp only [Instr.sameNow,reduceCtorEq] at hs
  injection hs with hs
  rw [← hs,Bool.eq_iff_iff]; simp
 ·simp only [VRel] at hx hy
  obtain ⟨_,rfl,_⟩:=hx
  obtain ⟨_,rfl,_⟩:=hy
  cases d <;> simp [Instr.sameNow] at hs
theorem findNow_rel {d:TypeDesc} {x:AVal} {u:Value} (hx:VRel E μ x u):∀ {es:List (AVal × AVal × Nat)} {l:List MapEntry} {i:Nat} {res:Option (Nat × AVal)} {r:Option (Nat × Value)},Entries E μ es l→findA x es=some res→Instr.findNow d u l i=some r→Found E μ i res r
 | [],l,i,res,r,he,hf,hn=>by
  have:l=[]:=a9 (by simpa using he.1)
  subst this
  simp only [findA] at hf; cases hf
  simp only [Instr.findNow] at hn; cases hn
  trivial
 | e :: es,l,i,res,r,he,hf,hn=>by
  obtain ⟨y,l',rfl,h1,h2,h3⟩:=he.cons
  simp only [findA] at hf
  simp only [Instr.findNow] at hn
  split at hn
  ·rename_i hs
   cases hn
   cases hk:akey x e.1 with
   | none=>rw [hk] at hf; cases hf
   | some q =>
    have:=sameNow_rel hx h1 hs hk
    subst this
    rw [hk] at hf
    simp only at hf; cases hf
    exact ⟨rfl,h2⟩
  ·rename_i hs
   cases hk:akey x e.1 with
   | none=>rw [hk] at hf; cases hf
   | some q =>
    have:=sameNow_rel hx h1 hs hk
    subst this
    rw [hk] at hf
    simp only at hf
    rw [ae] at hf
    obtain ⟨res',hf',rfl⟩:=hf
    have ih:=findNow_rel hx h3 hf' hn
    cases res' with
    | none=>cases r <;> exact ih
    | some p =>
     cases r with
     | none=>exact ih
     | some q=>exact ⟨by have:=ih.1; omega,ih.2⟩
  ·cases hn
theorem findAsking_rel {t:TypeId} {kn:KeyT} {x:AVal} {u:Value} (hk:keyT E.P t=some kn) (hx:VRel E μ x u) (hkx:isKey kn x=true) (w:World):∀ {es:List (AVal × AVal × Nat)} {l:List MapEntry} {i:Nat} {res:Option (Nat × AVal)},
  Entries E μ es l→findA x es=some res→∃ r,(Instr.findAsking t u l i).run E.P w = .ok r w∧Found E μ i res r
 | [],l,i,res,he,hf=>by
  have:l=[]:=a9 (by simpa using he.1)
  subst this
  simp only [findA] at hf; cases hf
  exact ⟨none,by simp [Instr.findAsking],trivial⟩
 | e :: es,l,i,res,he,hf=>by
  obtain ⟨y,l',rfl,h1,h2,h3⟩:=he.cons
  simp only [findA] at hf
  cases hke:akey x e.1 with
  | none=>rw [hke] at hf; cases hf
  | some q =>
   have heq:=key_eq hk hx h1 hkx hke w
   rw [hke] at hf
   cases q with
   | true =>
    simp only at hf; cases hf
    exact ⟨some (i,y.val),by simp [Instr.findAsking,heq],rfl,h2⟩
   | false =>
    simp only at hf
    rw [ae] at hf
    obtain ⟨res',hf',rfl⟩:=hf
    obtain ⟨r,hr,ih⟩:=findAsking_rel hk hx hkx w (i:=i+1) h3 hf'
    refine ⟨r,by simp [Instr.findAsking,heq,hr],?_⟩
    cases res' with
    | none=>cases r <;> exact ih
    | some p =>
     cases r with
     | none=>exact ih
     | some q=>exact ⟨by have:=ih.1; omega,ih.2⟩
theorem eu {t:TypeId} {kn:KeyT} {x:AVal} {u:Value} (hk:keyT E.P t=some kn) (hx:VRel E μ x u) (hkx:isKey kn x=true) (w:World) {es:List (AVal × AVal × Nat)} {l:List MapEntry} {res:Option (Nat × AVal)}
  (he:Entries E μ es l) (hf:findA x es=some res):∃ r,(Instr.findKey t u l).run E.P w = .ok r w∧Found E μ 0 res r:=by
 have hu:∃ d,E.P.underlying t=some d:=by
  cases hu:E.P.underlying t with
  | none=>simp [keyT,hu] at hk
  | some ty=>exact ⟨ty,rfl⟩
 obtain ⟨d,hd⟩:=hu
 cases hn:Instr.findNow d u l 0 with
 | some r=>exact ⟨r,MapKept.run_findKey hd hn,findNow_rel hx he hf hn⟩
 | none =>
  obtain ⟨r,hr,h2⟩:=findAsking_rel hk hx hkx w (i:=0) he hf
  exact ⟨r,by simp [Instr.findKey,run_underlying hd,Result.andThen,hn,hr],h2⟩
theorem akey1_true {x y:AVal} (h:akey1 x y=some true):x=y∧(∃ c:CK,c.is x=true):=by
 unfold akey1 at h
 split at h
 ·simp at h; exact ⟨by rw [h],.s,rfl⟩
 ·split at h
  ·rename_i e; subst e; simp at h; exact ⟨by rw [h],.i,rfl⟩
  ·cases h
 ·simp at h; exact ⟨by rw [h],.b,rfl⟩
 ·cases h
theorem akeyL_true:∀ {as bs:List AVal},akeyL as bs=some true→as=bs∧∀ x ∈ as,∃ c:CK,c.is x=true
 | [],[],_=>⟨rfl,by simp⟩
 | a :: as,b :: bs,h=>by
  simp only [akeyL] at h
  split at h
  ·rename_i h1
   obtain ⟨rfl,h2⟩:=akey1_true h1
   obtain ⟨rfl,h3⟩:=akeyL_true h
   exact ⟨rfl,fun x hx=>by
    rcases bt.1 hx with rfl | hx
    ·exact h2
    ·exact h3 x hx⟩
  ·cases h
  ·cases h
 | [],_ :: _,h=>by simp [akeyL] at h
 | _ :: _,[],h=>by simp [akeyL] at h
theorem key_val {x:AVal} {u v:Value} (hc:∃ c:CK,c.is x=true) (hu:VRel E μ x u) (hv:VRel E μ x v):u=v∧∀ n,Instr.sameBits n u u=true:=by
 obtain ⟨c,hc⟩:=hc
 cases x <;> cases c <;> simp only [CK.is,av] at hc <;> (simp only [VRel] at hu hv; subst hu; subst hv; refine ⟨rfl,fun n=>?_⟩; cases n <;> simp [Instr.sameBits,MapKept.bytes_beq])
theorem keys_val:∀ {as:List AVal} {l r:List Value},(∀ x ∈ as,∃ c:CK,c.is x=true)→VRels E μ as l→VRels E μ as r→l=r∧∀ u ∈ l,∀ n,Instr.sameBits n u u=true
 | [],l,r,_,h1,h2=>by
  simp only [VRels] at h1 h2; subst h1; subst h2
  exact ⟨rfl,by simp⟩
 | a :: as,l,r,h,h1,h2=>by
  simp only [VRels] at h1 h2
  obtain ⟨u,l,rfl,h3,h4⟩:=h1
  obtain ⟨v,r,rfl,h5,h6⟩:=h2
  obtain ⟨rfl,h7⟩:=key_val (h a (az ..)) h3 h5
  obtain ⟨rfl,h8⟩:=keys_val (fun x hx=>h x (bd _ hx)) h4 h6
  exact ⟨rfl,fun z hz=>by
   rcases bt.1 hz with rfl | hz
   ·exact h7
   ·exact h8 z hz⟩
theorem run_stays {x y:AVal} {u v:Value} (h:akey x y=some true) (hx:VRel E μ x u) (hy:VRel E μ y v) (w:World):(Instr.keyThatStays v u).run E.P w = .ok u w:=by
 have:Instr.sameBits 10000 v u=true:=by
  unfold akey at h
  split at h
  ·split at h
   ·obtain ⟨rfl,h1⟩:=akeyL_true h
    simp only [VRel] at hx hy
    obtain ⟨a,rfl,h2,_⟩:=hx
    obtain ⟨b,rfl,h3,_⟩:=hy
    obtain ⟨e,h4⟩:=keys_val h1 h2 h3
    have e':a=b:=Array.toList_inj.1 e
    subst e'
    have hall:(a.toList.zip a.toList).all (fun (x,y)=>Instr.sameBits 9999 x y)=true:=by
     rw [al]
     rintro ⟨p,q⟩ hpq
     have:p=q∧p ∈ a.toList:=by
      obtain ⟨k,hk⟩:=dp hpq
      rw [List.getElem?_zip_eq_some] at hk
      obtain ⟨k1,k2⟩:=hk
      simp only at k1 k2
      rw [k1] at k2
      exact ⟨cd k2,aq k1⟩
     obtain ⟨rfl,hp⟩:=this
     exact h4 p hp 9999
    show (a.size == a.size && _)=true
    rw [hall]; simp
   ·cases h
  ·obtain ⟨rfl,h1⟩:=akey1_true h
   obtain ⟨rfl,h2⟩:=key_val h1 hx hy
   exact h2 10000
 simp [Instr.keyThatStays,this]
theorem findA_get {x:AVal}:∀ {es:List (AVal × AVal × Nat)} {j:Nat} {v:AVal},findA x es=some (some (j,v))→∃ e,es[j]? = some e∧akey x e.1=some true
 | [],j,v,h=>by simp [findA] at h
 | e :: es,j,v,h=>by
  simp only [findA] at h
  split at h
  ·rename_i hk; cases h; exact ⟨e,rfl,hk⟩
  ·rw [ae] at h
   obtain ⟨r,h1,h2⟩:=h
   cases r with
   | none=>simp at h2
   | some p =>
    obtain ⟨j',v'⟩:=p
    simp at h2
    obtain ⟨rfl,rfl⟩:=h2
    obtain ⟨e',h3,h4⟩:=findA_get h1
    exact ⟨e',by simpa using h3,h4⟩
  ·cases h
theorem run_zeroA {P:Program} {t:TypeId} {z:AVal} (hz:zeroA P t=some z) (μ:MM) (w:World):∃ v,(zeroValue t).run P w = .ok v w∧VRel E μ z v:=by
 unfold zeroA at hz
 split at hz
 case h_2=>cases hz
 rename_i i hi
 split at hz
 case h_2=>cases hz
 rename_i v hv
 exact ⟨v,by simp [zeroValue,typeInfo,hi,hv],toA_rel hz μ⟩
theorem map_obj (hr:Rel E μ h w) {r:Nat} {es:List (AVal × AVal × Nat)} {c:Nat} (hg:h.get r=some (.map es c)):∃ (m:M) (es':Array MapEntry),μ[r]? = some (some m)∧w.heap[m.blk]? = some (.map es' c)∧Entries E μ es es'.toList:=by
 obtain ⟨m,es',h1,h2,h3,h4⟩:=hr.obj r _ hg
 exact ⟨m,es',h1,h2,by simpa using h3,fun k x hk=>by obtain ⟨y,y1,y2⟩:=h4 k x hk; exact ⟨y,by simpa using y1,y2⟩⟩
theorem map_at {r:Nat} {u:Value} {m:M} (hx:VRel E μ (.map (some r)) u) (hm:μ[r]? = some (some m)):u = .map (some m.blk):=by
 simp only [VRel] at hx
 obtain ⟨b,x,rfl,h1,h2⟩:=hx
 rw [hm] at h1; cases h1
 rw [h2 m rfl]
theorem lookup_rel (hr:Rel E μ h w) {t k e:TypeId} {kn:KeyT} {z:AVal} {ok:Bool} {x y v:AVal} {u i:Value} {h':Heap} (ht:E.P.underlying t=some (.map k e)) (hk:keyT E.P k=some kn) (hz:zeroA E.P e=some z) (hx:VRel E μ x u) (hy:VRel E μ y i)
  (he:evExt (.lookup kn z ok) [x,y] h=some (v,h')):h'=h∧∃ r,(Instr.lookup t u i ok).run E.P w = .ok r w∧VRel E μ v r:=by
 simp only [evExt] at he
 split at he
 case isFalse=>cases he
 rename_i hkey
 split at he
 case h_2=>cases he
 rename_i es hes
 have hent:∃ l:Array MapEntry,Entries E μ es l.toList∧((u = .map none∧l = #[])∨∃ b c,u = .map (some b)∧w.heap[b]? = some (.map l c)):=by
  unfold entriesOf at hes
  split at hes
  ·cases hes
   simp only [VRel] at hx
   exact ⟨#[],⟨rfl,by simp⟩,.inl ⟨hx,rfl⟩⟩
  ·rename_i r
   split at hes
   ·rename_i es0 c hg
    cases hes
    obtain ⟨m,es',h1,h2,h3⟩:=map_obj hr hg
    exact ⟨es',h3,.inr ⟨_,_,map_at hx h1,h2⟩⟩
   ·cases hes
  ·cases hes
 obtain ⟨l,hl,hu⟩:=hent
 have hchk:=key_check hk hy hkey l.isEmpty 9998 w
 split at he
 ·rename_i j v0 hf
  cases he
  refine ⟨rfl,?_⟩
  obtain ⟨r,hr1,hr2⟩:=eu hk hy hkey w hl hf
  cases r with
  | none=>exact hr2.elim
  | some p =>
   refine ⟨if ok then .tuple #[p.2,.bool true] else p.2,?_,?_⟩
   ·rcases hu with ⟨rfl,rfl⟩ | ⟨b,c,rfl,hb⟩
    ·simp at hchk hr1
     simp [Instr.lookup,run_underlying ht,hchk,hr1]
    ·simp at hchk hr1
     simp [Instr.lookup,run_underlying ht,MapKept.run_getObj_map hb,hchk,hr1]
   ·cases ok with
    | true=>simp only [if_true,VRel]; exact ⟨_,rfl,by simp [VRels,VRel,hr2.2]⟩
    | false=>simpa using hr2.2
 ·rename_i hf
  cases he
  refine ⟨rfl,?_⟩
  obtain ⟨r,hr1,hr2⟩:=eu hk hy hkey w hl hf
  obtain ⟨zv,hz1,hz2⟩:=run_zeroA (E:=E) hz μ w
  cases r with
  | some p=>exact hr2.elim
  | none =>
   refine ⟨if ok then .tuple #[zv,.bool false] else zv,?_,?_⟩
   ·rcases hu with ⟨rfl,rfl⟩ | ⟨b,c,rfl,hb⟩
    ·simp at hchk hr1
     simp [Instr.lookup,run_underlying ht,hchk,hr1,hz1]
    ·simp at hchk hr1
     simp [Instr.lookup,run_underlying ht,MapKept.run_getObj_map hb,hchk,hr1,hz1]
   ·cases ok with
    | true=>simp only [if_true,VRel]; exact ⟨_,rfl,by simp [VRels,VRel,hz2]⟩
    | false=>simpa using hz2
 ·cases he
theorem map_put (hf:FRel E lo ν μ (sget s) a.tmps w) (hr:Rel E μ h w) {dst:Option Tmp} {rr:Result Next} (hd:∀ x,dst=some x→x < a.tmps.size) {r:Nat} {m:M} {es:List (AVal × AVal × Nat)} {es' l:Array MapEntry} {c c0:Nat}
  (hb:h.base≤r) (hm:μ[r]? = some (some m)) (_hblk:w.heap[m.blk]? = some (.map l c0)) (hes:Entries E μ es es'.toList)
  (hrun:rr = .ok .skip (withBlock w m.blk (.map es' c))∨rr = .ok (.value (.tuple #[])) (withBlock w m.blk (.map es' c))) :
  OpDone E lo ν.ds μ w a dst rr (.val (.tuple [])) s (h.put r (.map es c)):=by
 have hlt:=hr.lt r m hm
 refine ⟨Go.undef,withBlock w m.blk (.map es' c),μ,ν,rfl,?_,Step.put hm (cw _ _) _,hr.put hb hm ?_,?_⟩
 ·rcases hrun with h1 | h1
  ·exact .inr ⟨rfl,h1⟩
  ·exact .inl h1
 ·exact ⟨m,es',hm,de hlt,by simpa using hes.1,fun k x hk=>by obtain ⟨y,y1,y2⟩:=hes.2 k x hk; exact ⟨y,by simpa using y1,y2⟩⟩
 ·rw [ed]
  refine FRel.setVal ?_ hd (by simp only [VRel]; exact ⟨#[],rfl,by simp [VRels]⟩)
  exact hf.keep (Later.refl _) (fun t cs' hv=>a0 (hf.sepm t cs' r m hv hm)) (fun t cs' j m' _ hj hm=>absurd (ah hm) (by omega)) fun q hq=>⟨a0 ((hf.sepd q hq).1 r m hm),fun j m' hj hm=>absurd (ah hm) (by omega)⟩
theorem mapupd_done (hf:FRel E lo ν μ (sget s) a.tmps w) (hr:Rel E μ h w) {dst:Option Tmp} {rr:Result Next} (hd:∀ x,dst=some x→x < a.tmps.size) {t k e:TypeId} {kn:KeyT} {x y z v:AVal} {u i p:Value} {h':Heap}
  (ht:E.P.underlying t=some (.map k e)) (hk:keyT E.P k=some kn) (hx:VRel E μ x u) (hy:VRel E μ y i) (hz:VRel E μ z p) (he:evExt (.mapupd kn) [x,y,z] h=some (v,h'))
  (hrun:rr=((Instr.mapUpdate t u i p).run E.P w).andThen fun _ w'=>.ok .skip w'):OpDone E lo ν.ds μ w a dst rr (.val v) s h':=by
 cases x <;> simp only [evExt,reduceCtorEq] at he
 rename_i q
 cases q with
 | none=>cases he
 | some r =>
  simp only at he
  split at he
  case isFalse=>cases he
  rename_i hh
  obtain ⟨hkey,hb⟩:=hh
  split at he
  case h_2=>cases he
  rename_i es c hg
  obtain ⟨m,l,h1,h2,h3⟩:=map_obj hr hg
  have hu:=map_at hx h1
  subst hu
  have hchk:=key_check hk hy hkey false 9998 w
  split at he
  ·rename_i j v0 hfd
   cases he
   obtain ⟨q,hr1,hr2⟩:=eu hk hy hkey w h3 hfd
   cases q with
   | none=>exact hr2.elim
   | some q =>
    obtain ⟨j',v'⟩:=q
    obtain ⟨rfl,_⟩:=hr2
    obtain ⟨e0,g1,g2⟩:=findA_get hfd
    obtain ⟨y0,g3,g4,g5,g6⟩:=h3.2 _ _ g1
    have hst:=run_stays g2 hy g4 w
    have g3':l[j]? = some y0:=by simpa using g3
    refine map_put (c:=c) (es':=l.modify j fun x=>{ x with key:=i,val:=p }) hf hr hd hb h1 h2 ⟨?_,fun k' x' hk'=>?_⟩ (.inl ?_)
    ·simp [h3.1]
    ·rw [List.getElem?_modify] at hk'
     by_cases ej:j=k'
     ·subst ej
      rw [g1] at hk'
      simp at hk'
      subst hk'
      refine ⟨{ y0 with key:=i,val:=p },?_,hy,hz,g6⟩
      simp [g3']
     ·have hk'':es[k']? = some x':=by
       cases hq:es[k']? with
       | none=>rw [hq] at hk'; simp at hk'
       | some z0=>rw [hq] at hk'; simp [ej] at hk'; rw [hk']
      obtain ⟨y1,q1,q2⟩:=h3.2 _ _ hk''
      refine ⟨y1,?_,q2⟩
      have q1':l[k']? = some y1:=by simpa using q1
      simp [ej,q1']
    ·rw [hrun]
     simp [Instr.mapUpdate,run_underlying ht,MapKept.run_getObj_map h2,hchk,hr1,g3',hst,MapKept.run_setObj_map _ h2]
     rfl
  ·rename_i hfd
   cases he
   obtain ⟨q,hr1,hr2⟩:=eu hk hy hkey w h3 hfd
   cases q with
   | some q=>exact hr2.elim
   | none =>
    refine map_put (c:=c+1) (es':=l.push { key:=i,val:=p,born:=c }) hf hr hd hb h1 h2 ⟨?_,fun k' x' hk'=>?_⟩ (.inl ?_)
    ·have:=h3.1; simp at this ⊢; exact this
    ·have hl:=h3.1
     simp at hl
     rcases am k' es.length with hlt | hge
     ·rw [ai hlt] at hk'
      obtain ⟨y1,q1,q2⟩:=h3.2 _ _ hk'
      refine ⟨y1,?_,q2⟩
      have q1':l[k']? = some y1:=by simpa using q1
      rw [gl,b9,if_neg (by omega)]
      exact q1'
     ·rw [ak hge] at hk'
      have h0:k'=es.length:=by
       have:=ah hk'
       simp at this; omega
      subst h0
      simp at hk'
      subst hk'
      exact ⟨{ key:=i,val:=p,born:=c },by simp [hl],hy,hz,rfl⟩
    ·rw [hrun]
     simp [Instr.mapUpdate,run_underlying ht,MapKept.run_getObj_map h2,hchk,hr1,MapKept.run_setObj_map _ h2]
     rfl
  ·cases he
theorem map_putV (hf:FRel E lo ν μ (sget s) a.tmps w) (hr:Rel E μ h w) {dst:Option Tmp} {rr:Result Next} (hd:∀ x,dst=some x→x < a.tmps.size) {r:Nat} {m:M} {es:List (AVal × AVal × Nat)} {es' l:Array MapEntry} {c c0:Nat} {v:AVal} {u:Value}
  (hb:h.base≤r) (hm:μ[r]? = some (some m)) (_hblk:w.heap[m.blk]? = some (.map l c0)) (hes:Entries E μ es es'.toList) (hv:VRel E μ v u)
  (hrun:rr = .ok (.value u) (withBlock w m.blk (.map es' c))) :
  OpDone E lo ν.ds μ w a dst rr (.val v) s (h.put r (.map es c)):=by
 have hlt:=hr.lt r m hm
 refine ⟨u,withBlock w m.blk (.map es' c),μ,ν,rfl,.inl hrun,Step.put hm (cw _ _) _,hr.put hb hm ?_,?_⟩
 ·exact ⟨m,es',hm,de hlt,by simpa using hes.1,fun k x hk=>by obtain ⟨y,y1,y2⟩:=hes.2 k x hk; exact ⟨y,by simpa using y1,y2⟩⟩
 ·rw [ed]
  refine FRel.setVal ?_ hd hv
  exact hf.keep (Later.refl _) (fun t cs' hv=>a0 (hf.sepm t cs' r m hv hm)) (fun t cs' j m' _ hj hm=>absurd (ah hm) (by omega)) fun q hq=>⟨a0 ((hf.sepd q hq).1 r m hm),fun j m' hj hm=>absurd (ah hm) (by omega)⟩
theorem mapentry_done (hf:FRel E lo ν μ (sget s) a.tmps w) (hr:Rel E μ h w) {dst:Option Tmp} {rr:Result Next} (hd:∀ x,dst=some x→x < a.tmps.size) {t k e:TypeId} {kn:KeyT} {x y z v:AVal} {u i:Value} {h':Heap}
  (ht:E.P.underlying t=some (.map k e)) (hk:keyT E.P k=some kn) (hz:zeroA E.P e=some z) (hx:VRel E μ x u) (hy:VRel E μ y i) (he:evExt (.mapentry kn z) [x,y] h=some (v,h'))
  (hrun:rr=((Instr.mapEntry t u i).run E.P w).andThen fun v w'=>.ok (.value v) w'):OpDone E lo ν.ds μ w a dst rr (.val v) s h':=by
 cases x <;> simp only [evExt,reduceCtorEq] at he
 rename_i q
 cases q with
 | none=>cases he
 | some r =>
  simp only at he
  split at he
  case isFalse=>cases he
  rename_i hh
  obtain ⟨hkey,hb⟩:=hh
  split at he
  case h_2=>cases he
  rename_i es c hg
  obtain ⟨m,l,h1,h2,h3⟩:=map_obj hr hg
  have hu:=map_at hx h1
  subst hu
  have hchk:=key_check hk hy hkey false 9998 w
  split at he
  ·rename_i j v0 hfd
   cases he
   obtain ⟨q,hr1,hr2⟩:=eu hk hy hkey w h3 hfd
   cases q with
   | none=>exact hr2.elim
   | some q =>
    obtain ⟨j',v'⟩:=q
    obtain ⟨rfl,hvv⟩:=hr2
    obtain ⟨e0,g1,g2⟩:=findA_get hfd
    obtain ⟨y0,g3,g4,g5,g6⟩:=h3.2 _ _ g1
    have hst:=run_stays g2 hy g4 w
    have g3':l[j]? = some y0:=by simpa using g3
    refine map_putV (c:=c) (es':=l.modify j fun x=>{ x with key:=i }) (u:=.tuple #[v',goInt y0.born]) hf hr hd hb h1 h2 ⟨?_,fun k' x' hk'=>?_⟩ ?_ ?_
    ·simp [h3.1]
    ·rw [List.getElem?_modify] at hk'
     by_cases ej:j=k'
     ·subst ej
      rw [g1] at hk'
      simp at hk'
      subst hk'
      refine ⟨{ y0 with key:=i },?_,hy,g5,g6⟩
      simp [g3']
     ·have hk'':es[k']? = some x':=by
       cases hq:es[k']? with
       | none=>rw [hq] at hk'; simp at hk'
       | some z0=>rw [hq] at hk'; simp [ej] at hk'; rw [hk']
      obtain ⟨y1,q1,q2⟩:=h3.2 _ _ hk''
      refine ⟨y1,?_,q2⟩
      have q1':l[k']? = some y1:=by simpa using q1
      simp [ej,q1']
    ·simp only [VRel]
     refine ⟨_,rfl,?_⟩
     simp [VRels,VRel,hvv,g1,g6,goInt]
    ·rw [hrun]
     simp [Instr.mapEntry,run_underlying ht,MapKept.run_getObj_map h2,hchk,hr1,g3',hst,MapKept.run_setObj_map _ h2]
     rfl
  ·rename_i hfd
   cases he
   obtain ⟨q,hr1,hr2⟩:=eu hk hy hkey w h3 hfd
   obtain ⟨zv,hz1,hz2⟩:=run_zeroA (E:=E) hz μ w
   cases q with
   | some q=>exact hr2.elim
   | none =>
    refine map_putV (c:=c+1) (es':=l.push { key:=i,val:=zv,born:=c }) (u:=.tuple #[zv,goInt c]) hf hr hd hb h1 h2 ⟨?_,fun k' x' hk'=>?_⟩ ?_ ?_
    ·have:=h3.1; simp at this ⊢; exact this
    ·have hl:=h3.1
     simp at hl
     rcases am k' es.length with hlt | hge
     ·rw [ai hlt] at hk'
      obtain ⟨y1,q1,q2⟩:=h3.2 _ _ hk'
      refine ⟨y1,?_,q2⟩
      have q1':l[k']? = some y1:=by simpa using q1
      rw [gl,b9,if_neg (by omega)]
      exact q1'
     ·rw [ak hge] at hk'
      have h0:k'=es.length:=by
       have:=ah hk'
       simp at this; omega
      subst h0
      simp at hk'
      subst hk'
      exact ⟨{ key:=i,val:=zv,born:=c },by simp [hl],hy,hz2,rfl⟩
    ·simp only [VRel]
     refine ⟨_,rfl,?_⟩
     simp [VRels,VRel,hz2,goInt]
    ·rw [hrun]
     simp [Instr.mapEntry,run_underlying ht,MapKept.run_getObj_map h2,hchk,hr1,hz1,MapKept.run_setObj_map _ h2]
     rfl
  ·cases he
theorem entries_find {st:Int}:∀ {es:List (AVal × AVal × Nat)} {l:List MapEntry},Entries E μ es l→l.findIdx? (fun e=>((e.born:Nat):Int) == st)=es.findIdx? (fun e=>((e.2.2:Nat):Int) == st)
 | [],l,h=>by
  have:l=[]:=a9 h.1
  subst this; rfl
 | x :: es,l,h=>by
  obtain ⟨_,hh⟩:=h
  obtain ⟨y,l',rfl,h1,h2,h3⟩:=Entries.cons ⟨by assumption,hh⟩
  obtain ⟨y',e1,_,_,e2⟩:=hh 0 x rfl
  simp at e1
  subst e1
  rw [List.findIdx?_cons,List.findIdx?_cons,e2,entries_find h3]
theorem entrystore_done (hf:FRel E lo ν μ (sget s) a.tmps w) (hr:Rel E μ h w) {dst:Option Tmp} {rr:Result Next} (hd:∀ x,dst=some x→x < a.tmps.size) {t:TypeId} {x y z v:AVal} {u i p:Value} {h':Heap}
  (hx:VRel E μ x u) (hy:VRel E μ y i) (hz:VRel E μ z p) (he:evExt .entrystore [x,y,z] h=some (v,h'))
  (hrun:rr=((Instr.entryStore t u i p).run E.P w).andThen fun _ w'=>.ok .skip w'):OpDone E lo ν.ds μ w a dst rr (.val v) s h':=by
 have hsh:∃ r st,x = .map (some r)∧y = .int .i64 st:=by
  unfold evExt at he
  split at he <;> simp_all
 obtain ⟨r,st,rfl,rfl⟩:=hsh
 simp only [evExt] at he
 split at he
 case isFalse=>cases he
 rename_i hb
 split at he
 case h_2=>cases he
 rename_i es c hg
 obtain ⟨m,l,h1,h2,h3⟩:=map_obj hr hg
 have hu:=map_at hx h1
 subst hu
 have hi:i = .int .i64 st:=by simpa only [VRel] using hy
 subst hi
 split at he
 case h_2=>cases he
 rename_i j hj
 cases he
 have hj':l.findIdx? (fun e=>((e.born:Nat):Int) == st)=some j:=by
  have:=entries_find (st:=st) h3
  rw [hj] at this
  rw [← this]
  obtain ⟨l⟩:=l
  simp
 have hjl:j < es.length:=by
  have:=List.findIdx?_eq_some_iff_getElem.1 hj
  exact this.1
 obtain ⟨e0,g1⟩:∃ e0,es[j]? = some e0:=⟨_,ag hjl⟩
 obtain ⟨y0,g3,g4,g5,g6⟩:=h3.2 _ _ g1
 have g3':l[j]? = some y0:=by simpa using g3
 refine map_put (c:=c) (es':=l.modify j fun x=>{ x with val:=p }) hf hr hd hb h1 h2 ⟨?_,fun k' x' hk'=>?_⟩ (.inl ?_)
 ·simp [h3.1]
 ·rw [List.getElem?_modify] at hk'
  by_cases ej:j=k'
  ·subst ej
   rw [g1] at hk'
   simp at hk'
   subst hk'
   refine ⟨{ y0 with val:=p },?_,g4,hz,g6⟩
   simp [g3']
  ·have hk'':es[k']? = some x':=by
    cases hq:es[k']? with
    | none=>rw [hq] at hk'; simp at hk'
    | some z0=>rw [hq] at hk'; simp [ej] at hk'; rw [hk']
   obtain ⟨y1,q1,q2⟩:=h3.2 _ _ hk''
   refine ⟨y1,?_,q2⟩
   have q1':l[k']? = some y1:=by simpa using q1
   simp [ej,q1']
 ·rw [hrun]
  simp [Instr.entryStore,asInt,asIntOf,MapKept.run_getObj_map h2,hj',MapKept.run_setObj_map _ h2]
  rfl
theorem delete_done (hf:FRel E lo ν μ (sget s) a.tmps w) (hr:Rel E μ h w) {dst:Option Tmp} {rr:Result Next} (hd:∀ x,dst=some x→x < a.tmps.size) {t k e:TypeId} {ts:Array TypeId} {ty:TypeId} {kn:KeyT} {x y v:AVal} {u i:Value} {h':Heap}
  (hts:ts[0]? = some t) (ht:E.P.underlying t=some (.map k e)) (hk:keyT E.P k=some kn) (hx:VRel E μ x u) (hy:VRel E μ y i) (he:evExt (.delete kn) [x,y] h=some (v,h'))
  (hrun:rr=((Builtin.delete_ ts ty #[u,i]).run E.P w).andThen fun v w'=>.ok (.value v) w'):OpDone E lo ν.ds μ w a dst rr (.val v) s h':=by
 cases x <;> simp only [evExt,reduceCtorEq] at he
 rename_i q
 cases q with
 | none =>
  simp only at he
  split at he
  case isFalse=>cases he
  rename_i hkey
  cases he
  simp only [VRel] at hx; subst hx
  have hchk:=key_check hk hy hkey true 9998 w
  refine bp hf hr hd (v:=.tuple #[]) ?_ (by simp only [VRel]; exact ⟨#[],rfl,by simp [VRels]⟩)
  rw [hrun]
  simp [Builtin.delete_,hts,run_underlying ht,hchk]
 | some r =>
  simp only at he
  split at he
  case isFalse=>cases he
  rename_i hh
  obtain ⟨hkey,hb⟩:=hh
  split at he
  case h_2=>cases he
  rename_i es c hg
  obtain ⟨m,l,h1,h2,h3⟩:=map_obj hr hg
  have hu:=map_at hx h1
  subst hu
  have hchk:=key_check hk hy hkey l.isEmpty 9998 w
  split at he
  ·rename_i j v0 hfd
   cases he
   obtain ⟨q,hr1,hr2⟩:=eu hk hy hkey w h3 hfd
   cases q with
   | none=>exact hr2.elim
   | some q =>
    obtain ⟨j',v'⟩:=q
    obtain ⟨rfl,_⟩:=hr2
    obtain ⟨e0,g1,_⟩:=findA_get hfd
    have hl:=h3.1
    simp at hl
    have hj:j < l.size:=by rw [hl]; exact ah g1
    refine map_put (c:=c) (es':=l.eraseIdxIfInBounds j) hf hr hd hb h1 h2 ⟨?_,fun k' x' hk'=>?_⟩ (.inr ?_)
    ·simp [Array.eraseIdxIfInBounds,hj,List.length_eraseIdx,← hl]
    ·rw [List.getElem?_eraseIdx] at hk'
     simp only [Array.eraseIdxIfInBounds,hj,dif_pos,Array.toList_eraseIdx,List.getElem?_eraseIdx]
     split at hk'
     ·rename_i hlt; rw [if_pos hlt]; exact h3.2 _ _ hk'
     ·rename_i hlt; rw [if_neg hlt]; exact h3.2 _ _ hk'
    ·rw [hrun]
     simp [Builtin.delete_,hts,run_underlying ht,MapKept.run_getObj_map h2,hchk,hr1,MapKept.run_setObj_map _ h2]
     rfl
  ·rename_i hfd
   cases he
   obtain ⟨q,hr1,hr2⟩:=eu hk hy hkey w h3 hfd
   cases q with
   | some q=>exact hr2.elim
   | none =>
    have hsame:({ w with heap:=w.heap.setIfInBounds m.blk (.map l c) }:World)=w:=by
     congr 1
     apply Array.ext_getElem?
     intro k'
     by_cases e:m.blk=k'
     ·subst e
      rw [h2]
      have:=hr.lt _ _ h1
      simp [this]
     ·rw [bj e]
    refine bp hf hr hd (v:=.tuple #[]) ?_ (by simp only [VRel]; exact ⟨#[],rfl,by simp [VRels]⟩)
    rw [hrun]
    simp [Builtin.delete_,hts,run_underlying ht,MapKept.run_getObj_map h2,hchk,hr1,MapKept.run_setObj_map _ h2,hsame]
  ·cases he
end
end Go.Abs
