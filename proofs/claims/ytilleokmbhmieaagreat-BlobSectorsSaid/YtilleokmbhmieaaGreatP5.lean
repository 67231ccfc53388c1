/-
  Texts joined.
-/
import Derived.Test.YtilleokmbhmieaaGreatP0
import Derived.Test.YtilleokmbhmieaaGreatP4
import Derived.Test.YtilleokmbhmieaaGreatP2
set_option linter.unusedVariables false
set_option linter.unusedSimpArgs false
set_option maxRecDepth 100000
namespace Go.Abs
section
variable {call:CallSem} {n0:Nat}
def dsl (D:Nat→Did) (x:Nat):List Did:=(List.range x).map D
theorem dsl_get {D:Nat→Did} {x y:Nat} (h:y < x):(dsl D x)[y]? = some (D y):=by simp [dsl,h]
theorem dsl_length (D:Nat→Did) (x:Nat):(dsl D x).length=x:=by simp [dsl]
theorem open_text:∀ (seg:List AOper) (ms:List Nat) (ds:List Did) (s s1:Slots) (h h1:Heap),openAll call n0 ms seg ds s h=some (s1,h1) →
  ∃ (S:Nat→Slots) (H:Nat→Heap) (r:Nat→Slot) (D:Nat→Did),S 0=s∧H 0=h∧S seg.length=s1∧H seg.length=h1 ∧
   ∀ (x:Nat) (o:AOper),seg[x]? = some o→openOne call n0 (ms.getD x 0) (ds++dsl D x) o (S x) (H x)=some (r x,H (x+1),D x)∧S (x+1)=setSlot o.dst (r x) (S x) ∧
    (∀ d,o.dst=some d→isVar (S x) d=false)∧noClash (H (x+1)) (ms.getD x 0) (D x) 0 (ds++dsl D x)=true
 | [],ms,ds,s,s1,h,h1,e=>by
  simp only [openAll] at e; cases e
  exact ⟨fun _=>s,fun _=>h,fun _=>.undef,fun _=>⟨false,[],none,none,0,0,none⟩,rfl,rfl,rfl,rfl,fun x o hx=>by simp at hx⟩
 | o :: seg,ms,ds,s,s1,h,h1,e=>by
  simp only [openAll] at e
  split at e
  case h_2=>cases e
  rename_i y h2 d he
  split at e
  case isFalse=>cases e
  rename_i hh
  obtain ⟨a1,a2⟩:=hh
  obtain ⟨S,H,r,D,b1,b2,b3,b4,b5⟩:=open_text seg ms.tail (ds++[d]) _ s1 h2 h1 e
  have hm0:ms.headD 0=ms.getD 0 0:=by cases ms <;> rfl
  refine ⟨fun x=>match x with | 0=>s | x+1=>S x,fun x=>match x with | 0=>h | x+1=>H x,fun x=>match x with | 0=>y | x+1=>r x,fun x=>match x with | 0=>d | x+1=>D x,
   rfl,rfl,by simpa using b3,by simpa using b4,fun x o1 hx=>?_⟩
  cases x with
  | zero =>
   simp at hx; subst hx
   rw [← hm0]
   refine ⟨by simp only [b2,dsl]; simpa using he,by simp only [b1],fun d hd=>?_,by simpa [dsl,b2] using a2⟩
   rw [hd] at a1
   simpa using a1
  | succ x =>
   simp at hx
   have h3:=b5 x o1 hx
   have e1:ds++[d]++dsl D x=ds++dsl (fun x=>match x with | 0=>d | x+1=>D x) (x+1):=by
    rw [aw]
    congr 1
    simp only [dsl,List.range_succ_eq_map,bc,List.map_map,List.singleton_append]
    rfl
   have e2:ms.tail.getD x 0=ms.getD (x+1) 0:=by cases ms <;> simp
   rw [e1,e2] at h3
   exact h3
structure OneCall (call:CallSem) (n0 m:Nat) (ds:List Did) (o:AOper) (s:Slots) (h:Heap) (y:Slot) (h':Heap) (d:Did):Prop where
 isc:o.op.isCall=true
 run:∃ s1 g,evOper call o s ⟨hide m 0 ds h.objs,h.base,h.size⟩=some (s1,g)∧y=dstSlot o.dst s1∧h'.size=g.size ∧
  ((allSeen m 0 ds=true∧g.wmin < h.size∧d.wr=some (g.wmin,h.objs,g.objs)∧h'=⟨g.objs,h.base,min h.wmin g.wmin⟩)∨(allSeen m 0 ds=true∧h.size≤g.wmin∧d.wr=none∧h'=⟨g.objs,h.base,h.wmin⟩) ∨
   (h.size≤g.wmin∧d.wr=none∧(∀ i ∈ y.ids++(g.objs.drop h.size).flatMap AObj.ids,okId n0 m ds i=true∨h.size≤i)∧h'=⟨h.objs++g.objs.drop h.size,h.base,h.wmin⟩))
 did:d.isCall=true∧d.rd=[]∧d.ch=none
 ld:d.ld=none
structure OneSoft (n0 m:Nat) (ds:List Did) (o:AOper) (s:Slots) (h:Heap) (y:Slot) (h':Heap) (d:Did):Prop where
 isc:o.op.isCall=false
 run:∃ s1 g,evOper noCall o s ⟨h.objs,h.base,h.size⟩=some (s1,g)∧y=dstSlot o.dst s1 ∧
  ((g.size=h.size∧g.wmin=h.size∧(∀ i ∈ y.ids,okId n0 m ds i=true)∧h'=h∧d.ch=none) ∨
   (∃ ob,g.size=h.size∧g.wmin < h.size∧g.objs[g.wmin]? = some ob∧(∀ i ∈ y.ids++ob.ids,okId n0 m ds i=true)∧d.ch=some g.wmin∧h'=⟨g.objs,h.base,min h.wmin g.wmin⟩) ∨
   (∃ ob,g.size=h.size+1∧g.objs[h.size]? = some ob∧(∀ i ∈ ob.ids,okId n0 m ds i=true)∧((g.wmin=h.size∧d.ch=none∧h'=⟨g.objs,h.base,h.wmin⟩)∨(g.wmin≠h.size∧d.ch=some g.wmin∧h'=⟨g.objs,h.base,min h.wmin g.wmin⟩))))
 did:d.isCall=false∧d.rd=rdIds o.op s∧d.wr=none
 ld:d.ld=ldOf o s y
theorem openOne_spec (hev0:CallEvol call) {m:Nat} {ds:List Did} {o:AOper} {s:Slots} {h:Heap} {y:Slot} {h':Heap} {d:Did} (e:openOne call n0 m ds o s h=some (y,h',d)) :
  ((∀ t ∈ o.reads,∀ i ∈ slotIds s t,okId n0 m ds i=true)∧∀ i ∈ rdIds o.op s,okId n0 m ds i=true)∧d.lo=h.size∧d.hi=h'.size∧h'.base=h.base∧(OneCall call n0 m ds o s h y h' d∨OneSoft n0 m ds o s h y h' d):=by
 unfold openOne at e
 split at e
 ·cases e
 rename_i hr
 have hr':(∀ t ∈ o.reads,∀ i ∈ slotIds s t,okId n0 m ds i=true)∧∀ i ∈ rdIds o.op s,okId n0 m ds i=true:=by
  simp only [Bool.not_eq_false,al,da,br] at hr
  exact ⟨fun t ht i hi=>hr i (.inl ⟨t,ht,hi⟩),fun i hi=>hr i (.inr hi)⟩
 refine ⟨hr',?_⟩
 split at e
 ·rename_i hc
  split at e
  ·cases e
  rename_i s1 g he
  simp only at e
  split at e
  ·rename_i hw
   split at e
   ·rename_i hall
    cases e
    exact ⟨rfl,rfl,rfl,.inl ⟨hc,⟨s1,g,he,rfl,rfl,.inl ⟨hall,hw,rfl,rfl⟩⟩,⟨rfl,rfl,rfl⟩,rfl⟩⟩
   ·cases e
  ·rename_i hw
   split at e
   ·rename_i hall
    cases e
    exact ⟨rfl,rfl,rfl,.inl ⟨hc,⟨s1,g,he,rfl,rfl,.inr (.inl ⟨hall,by omega,rfl,rfl⟩)⟩,⟨rfl,rfl,rfl⟩,rfl⟩⟩
   ·split at e
    ·rename_i hids
     cases e
     rw [al] at hids
     have hge:h.size≤g.size:=by
      have:=(jq hev0 he).size
      simp only [Heap.size,ja] at this
      exact this
     have hsz:({ objs:=h.objs++List.drop h.size g.objs,base:=h.base,wmin:=h.wmin }:Heap).size=g.size:=by
      simp only [Heap.size,ap,fh] at hge ⊢; omega
     refine ⟨rfl,hsz.symm,rfl,.inl ⟨hc,⟨s1,g,he,rfl,hsz,.inr (.inr ⟨by omega,rfl,fun i hi=>?_,rfl⟩)⟩,⟨rfl,rfl,rfl⟩,rfl⟩⟩
     have:=hids i hi
     simpa using this
    ·cases e
 ·rename_i hc
  have hc:o.op.isCall=false:=by simpa using hc
  split at e
  ·cases e
  rename_i s1 g he
  simp only at e
  split at e
  ·rename_i hsz
   split at e
   ·rename_i hlt
    split at e
    ·rename_i ob hob
     split at e
     ·rename_i hids
      cases e
      exact ⟨rfl,hsz.symm,rfl,.inr ⟨hc,⟨s1,g,he,rfl,.inr (.inl ⟨ob,hsz,hlt,hob,al.1 hids,rfl,rfl⟩)⟩,⟨rfl,rfl,rfl⟩,rfl⟩⟩
     ·cases e
    ·cases e
   ·split at e
    ·rename_i hw
     cases e
     exact ⟨rfl,rfl,rfl,.inr ⟨hc,⟨s1,g,he,rfl,.inl ⟨hsz,hw.1,al.1 hw.2,rfl,rfl⟩⟩,⟨rfl,rfl,rfl⟩,rfl⟩⟩
    ·cases e
  ·split at e
   ·rename_i hsz
    split at e
    ·rename_i ob hob
     split at e
     ·rename_i hids
      rw [al] at hids
      split at e
      ·rename_i hw
       cases e
       exact ⟨rfl,hsz.symm,rfl,.inr ⟨hc,⟨s1,g,he,rfl,.inr (.inr ⟨ob,hsz,hob,hids,.inl ⟨hw,rfl,rfl⟩⟩)⟩,⟨rfl,rfl,rfl⟩,rfl⟩⟩
      ·rename_i hw
       cases e
       exact ⟨rfl,hsz.symm,rfl,.inr ⟨hc,⟨s1,g,he,rfl,.inr (.inr ⟨ob,hsz,hob,hids,.inr ⟨hw,rfl,rfl⟩⟩)⟩,⟨rfl,rfl,rfl⟩,rfl⟩⟩
     ·cases e
    ·cases e
   ·cases e
def touched (D:Nat→Did) (sz:Nat→Nat) (x i:Nat):Prop:=i < sz (x+1)∧(sz x≤i∨(D x).writes i=true)
open Classical in
noncomputable def upd (D:Nat→Did) (sz:Nat→Nat) (H:Nat→Heap) (x i:Nat):Option AObj:=if touched D sz x i then (H (x+1)).objs[i]? else none
noncomputable def mem (D:Nat→Did) (sz:Nat→Nat) (H:Nat→Heap) (L:Nat→Bool):Nat→Nat→AObj
 | 0,i=>((H 0).objs[i]?).getD .dead
 | k+1,i=>if L k then (upd D sz H k i).getD (mem D sz H L k i) else mem D sz H L k i
section
variable {D:Nat→Did} {sz:Nat→Nat} {H:Nat→Heap} {L L':Nat→Bool} {i:Nat}
theorem mem_congr:∀ (k:Nat),(∀ y,y < k→upd D sz H y i≠none→L y=L' y)→mem D sz H L k i=mem D sz H L' k i
 | 0,_=>rfl
 | k+1,h=>by
  have ih:=mem_congr k fun y hy=>h y (by omega)
  simp only [mem]
  cases hu:upd D sz H k i with
  | none=>simp only [Option.getD_none,ih,ite_self]
  | some o =>
   have:=h k (by omega) (by rw [hu]; simp)
   rw [this,ih]
theorem mem_text {n:Nat} (hsz:∀ x,sz x=(H x).size) (hmono:∀ x,x < n→sz x≤sz (x+1)) (hun:∀ x i,x < n→i < sz x→(D x).writes i=false→(H (x+1)).objs[i]? = (H x).objs[i]?) :
  ∀ (x:Nat),x≤n→mem D sz H (fun _=>true) x i=((H x).objs[i]?).getD .dead
 | 0,_=>rfl
 | x+1,hx=>by
  simp only [mem,if_true,mem_text hsz hmono hun x (by omega)]
  unfold upd
  by_cases ht:touched D sz x i
  ·rw [if_pos ht]
   cases hq:(H (x+1)).objs[i]? with
   | some o=>rfl
   | none =>
    exfalso
    have:=ht.1
    rw [hsz] at this
    rw [List.getElem?_eq_none_iff] at hq
    unfold Heap.size at this
    omega
  ·rw [if_neg ht]
   simp only [Option.getD_none]
   by_cases h1:i < sz (x+1)
   ·have h2:i < sz x:=by
     rcases a8 i (sz x) with h | h
     ·exact h
     ·exact absurd ⟨h1,.inl h⟩ ht
    have h3:(D x).writes i=false:=by
     cases hw:(D x).writes i with
     | false=>rfl
     | true=>exact absurd ⟨h1,.inr hw⟩ ht
    rw [hun x i (by omega) h2 h3]
   ·have e1:(H (x+1)).objs[i]? = none:=by
     rw [List.getElem?_eq_none_iff]; have:=hsz (x+1); unfold Heap.size at this; omega
    have e2:(H x).objs[i]? = none:=by
     rw [List.getElem?_eq_none_iff]; have h5:=hsz x; have:=hmono x (by omega); unfold Heap.size at h5; omega
    rw [e1,e2]
theorem mem_prefix (x:Nat):∀ (k:Nat),mem D sz H (fun y=>decide (y < x)) (x+k) i=mem D sz H (fun _=>true) x i
 | 0=>mem_congr x fun y hy _=>decide_eq_true hy
 | k+1=>by
  rw [← jj]
  simp only [mem]
  rw [if_neg (by simp),mem_prefix x k]
theorem mem_insert_hit {x n:Nat} {o:AObj} (hx:x < n) (hu:upd D sz H x i=some o) (hno:∀ y,y < n→x < y→L y=true→upd D sz H y i=none):mem D sz H (fun y=>y == x || L y) n i=o:=by
 obtain ⟨k,rfl⟩:∃ k,n=x+1+k:=⟨n - (x+1),by omega⟩
 clear hx
 induction k with
 | zero=>simp [mem,hu]
 | succ k ih =>
  have ih:=ih fun y hy=>hno y (by omega)
  rw [← jj]
  simp only [mem]
  rw [ih]
  have e1:(x+1+k == x)=false:=by simp; omega
  simp only [e1,Bool.false_or]
  split
  ·rename_i hL
   rw [hno (x+1+k) (by omega) (by omega) hL]; rfl
  ·rfl
theorem gr {x n:Nat} (hu:upd D sz H x i=none):mem D sz H (fun y=>y == x || L y) n i=mem D sz H L n i :=
 mem_congr n fun y _ hy=>by
  by_cases e:y=x
  ·subst e; exact absurd hu hy
  ·simp [e]
theorem mem_from:∀ (n:Nat),mem D sz H L n i=((H 0).objs[i]?).getD .dead∧(∀ y,y < n→L y=true→upd D sz H y i=none)∨∃ y o,y < n∧L y=true∧upd D sz H y i=some o∧mem D sz H L n i=o
 | 0=>.inl ⟨rfl,fun y hy=>by omega⟩
 | n+1=>by
  simp only [mem]
  by_cases hL:L n=true
  ·rw [if_pos hL]
   cases hu:upd D sz H n i with
   | some o=>exact .inr ⟨n,o,by omega,hL,hu,rfl⟩
   | none =>
    simp only [Option.getD_none]
    rcases mem_from n with ⟨h1,h2⟩ | ⟨y,o,h1,h2,h3,h4⟩
    ·refine .inl ⟨h1,fun y hy hl=>?_⟩
     by_cases e:y=n
     ·subst e; exact hu
     ·exact h2 y (by omega) hl
    ·exact .inr ⟨y,o,by omega,h2,h3,h4⟩
  ·rw [if_neg hL]
   rcases mem_from n with ⟨h1,h2⟩ | ⟨y,o,h1,h2,h3,h4⟩
   ·refine .inl ⟨h1,fun y hy hl=>?_⟩
    by_cases e:y=n
    ·subst e; exact absurd hl hL
    ·exact h2 y (by omega) hl
   ·exact .inr ⟨y,o,by omega,h2,h3,h4⟩
end
end
end Go.Abs

namespace Go.Abs
section
theorem seenBy_iff {m:Nat} {i:Nat}:∀ (ds:List Did) (k:Nat),seenBy m k ds i=true ↔ ∃ y d,ds[y]? = some d∧m.testBit (k+y)=true∧d.lo≤i∧i < d.hi
 | [],k=>by simp [seenBy]
 | d :: ds,k=>by
  simp only [seenBy,cd,az,decide_eq_true_eq,seenBy_iff ds (k+1)]
  constructor
  ·rintro (⟨⟨h1,h2⟩,h3⟩ | ⟨y,d',h1,h2,h3⟩)
   ·exact ⟨0,d,rfl,h1,h2,h3⟩
   ·exact ⟨y+1,d',by simpa using h1,by rw [show k+(y+1)=k+1+y by omega]; exact h2,h3⟩
  ·rintro ⟨y,d',h1,h2,h3⟩
   cases y with
   | zero=>simp at h1; subst h1; exact .inl ⟨⟨h2,h3.1⟩,h3.2⟩
   | succ y=>exact .inr ⟨y,d',by simpa using h1,by rw [show k+1+y=k+(y+1) by omega]; exact h2,h3⟩
theorem allSeen_get {m:Nat}:∀ (ds:List Did) (k:Nat),allSeen m k ds=true→∀ y d,ds[y]? = some d→m.testBit (k+y)=true∨d.hi≤d.lo
 | [],k,_,y,d,h=>by simp at h
 | d :: ds,k,h,y,d',hy=>by
  simp only [allSeen,az,cd,decide_eq_true_eq] at h
  cases y with
  | zero=>simp at hy; subst hy; exact h.1
  | succ y =>
   rw [show k+(y+1)=k+1+y by omega]
   exact allSeen_get ds (k+1) h.2 y d' (by simpa using hy)
theorem noClash_get {h':Heap} {m:Nat} {x:Did}:∀ (ds:List Did) (k:Nat),noClash h' m x k ds=true→∀ y d,ds[y]? = some d→m.testBit (k+y)=true∨clash x d=false∨benign h' x d=true
 | [],k,_,y,d,h=>by simp at h
 | d :: ds,k,h,y,d',hy=>by
  simp only [noClash,az,cd,dv] at h
  cases y with
  | zero=>simp at hy; subst hy; exact h.1
  | succ y =>
   rw [show k+(y+1)=k+1+y by omega]
   exact noClash_get ds (k+1) h.2 y d' (by simpa using hy)
def Hid (m k:Nat) (ds:List Did) (i:Nat):Prop:=∃ y d,ds[y]? = some d∧m.testBit (k+y)=false∧d.lo≤i∧i < d.hi
theorem hide_get {m:Nat} {i:Nat}:∀ (ds:List Did) (k:Nat) (os:List AObj),(Hid m k ds i→(hide m k ds os)[i]? = (os[i]?).map fun _=>.dead)∧(¬ Hid m k ds i→(hide m k ds os)[i]? = os[i]?)
 | [],k,os=>⟨fun ⟨y,d,h,_⟩=>by simp at h,fun _=>rfl⟩
 | d :: ds,k,os=>by
  simp only [hide]
  have ih:=hide_get (m:=m) (i:=i) ds (k+1) (if (m.testBit k || decide (d.hi≤d.lo))=true then os else killRange d.lo d.hi os)
  have hstep:Hid m k (d :: ds) i ↔ (m.testBit k=false∧d.lo≤i∧i < d.hi)∨Hid m (k+1) ds i:=by
   constructor
   ·rintro ⟨y,d',h1,h2,h3⟩
    cases y with
    | zero=>simp at h1; subst h1; exact .inl ⟨h2,h3⟩
    | succ y=>exact .inr ⟨y,d',by simpa using h1,by rw [show k+1+y=k+(y+1) by omega]; exact h2,h3⟩
   ·rintro (⟨h1,h2⟩ | ⟨y,d',h1,h2,h3⟩)
    ·exact ⟨0,d,rfl,h1,h2⟩
    ·exact ⟨y+1,d',by simpa using h1,by rw [show k+(y+1)=k+1+y by omega]; exact h2,h3⟩
  by_cases h1:m.testBit k=false∧d.lo≤i∧i < d.hi
  ·have hc:¬ ((m.testBit k || decide (d.hi≤d.lo))=true):=by simp [h1.1]; omega
   rw [if_neg hc] at ih ⊢
   have hk:(killRange d.lo d.hi os)[i]? = (os[i]?).map fun _=>.dead:=by
    simp only [killRange,List.getElem?_mapIdx]
    cases os[i]? with
    | none=>rfl
    | some o=>simp [h1.2.1,h1.2.2]
   refine ⟨fun _=>?_,fun h=>absurd (hstep.2 (.inl h1)) h⟩
   by_cases h2:Hid m (k+1) ds i
   ·rw [ih.1 h2,hk]; cases os[i]? <;> rfl
   ·rw [ih.2 h2,hk]
  ·have hk:(if (m.testBit k || decide (d.hi≤d.lo))=true then os else killRange d.lo d.hi os)[i]? = os[i]?:=by
    split
    ·rfl
    ·rename_i hh
     simp only [cd,decide_eq_true_eq,not_or,Bool.not_eq_true] at hh
     simp only [killRange,List.getElem?_mapIdx]
     cases os[i]? with
     | none=>rfl
     | some o =>
      have:¬ (d.lo≤i∧i < d.hi):=fun h2=>h1 ⟨hh.1,h2⟩
      simp [this]
   rw [hk] at ih
   exact ⟨fun h=>ih.1 ((hstep.1 h).resolve_left h1),fun h=>ih.2 fun h2=>h (hstep.2 (.inr h2))⟩
structure Txt (call:CallSem) (n:Nat) (ops:Nat→Option AOper) (ms:Nat→Nat) (S:Nat→Slots) (H:Nat→Heap) (r:Nat→Slot) (D:Nat→Did):Prop where
 one:∀ x o,x < n→ops x=some o→openOne call (H 0).size (ms x) (dsl D x) o (S x) (H x)=some (r x,H (x+1),D x)∧S (x+1)=setSlot o.dst (r x) (S x)∧(∀ d,o.dst=some d→isVar (S x) d=false)∧noClash (H (x+1)) (ms x) (D x) 0 (dsl D x)=true
 all:∀ x,x < n→∃ o,ops x=some o
 soft:∀ x o,x < n→ops x=some o→soft o.op=true
 back:∀ x y,x < n→(ms x).testBit y=true→y < x
 trans:∀ x y z,x < n→(ms x).testBit y=true→(ms y).testBit z=true→(ms x).testBit z=true
variable {call:CallSem} {n:Nat} {ops:Nat→Option AOper} {ms:Nat→Nat} {S:Nat→Slots} {H:Nat→Heap} {r:Nat→Slot} {D:Nat→Did}
def Vis (ms:Nat→Nat) (H:Nat→Heap) (x i:Nat):Prop:=i < (H 0).size∨∃ y,y < x∧(ms x).testBit y=true∧(H y).size≤i∧i < (H (y+1)).size
namespace Txt
variable (T:Txt call n ops ms S H r D) (hev0:CallEvol call)
include T hev0
theorem spec {x:Nat} {o:AOper} (hx:x < n) (ho:ops x=some o):((∀ t ∈ o.reads,∀ i ∈ slotIds (S x) t,okId (H 0).size (ms x) (dsl D x) i=true)∧∀ i ∈ rdIds o.op (S x),okId (H 0).size (ms x) (dsl D x) i=true)∧(D x).lo=(H x).size∧(D x).hi=(H (x+1)).size∧(H (x+1)).base=(H x).base ∧
  (OneCall call (H 0).size (ms x) (dsl D x) o (S x) (H x) (r x) (H (x+1)) (D x)∨OneSoft (H 0).size (ms x) (dsl D x) o (S x) (H x) (r x) (H (x+1)) (D x)) :=
 openOne_spec hev0 (T.one x o hx ho).1
theorem evol {x:Nat} (hx:x < n):Evol (H x) (H (x+1)):=by
 obtain ⟨o,ho⟩:=T.all x hx
 exact openOne_evol hev0 (T.one x o hx ho).1
theorem lo {x:Nat} (hx:x < n):(D x).lo=(H x).size:=by
 obtain ⟨o,ho⟩:=T.all x hx
 exact (T.spec hev0 hx ho).2.1
theorem hi {x:Nat} (hx:x < n):(D x).hi=(H (x+1)).size:=by
 obtain ⟨o,ho⟩:=T.all x hx
 exact (T.spec hev0 hx ho).2.2.1
theorem mono:∀ {x y:Nat},x≤y→y≤n→(H x).size≤(H y).size:=by
 intro x y hxy
 induction hxy with
 | refl=>intro _; exact ai _
 | step _ ih=>intro h; exact b8 (ih (by omega)) (T.evol hev0 (by omega)).size
theorem base:∀ {x:Nat},x≤n→(H x).base=(H 0).base
 | 0,_=>rfl
 | x+1,h=>(T.evol hev0 (by omega)).base.trans (base (by omega))
theorem wmin:∀ {x y:Nat},x≤y→y≤n→(H y).wmin≤(H x).wmin:=by
 intro x y hxy
 induction hxy with
 | refl=>intro _; exact ai _
 | step _ ih=>intro h; exact b8 (T.evol hev0 (by omega)).wmin (ih (by omega))
theorem okId_iff {x i:Nat} (hx:x < n):okId (H 0).size (ms x) (dsl D x) i=true ↔ Vis ms H x i:=by
 unfold okId Vis
 simp only [cd,decide_eq_true_eq,seenBy_iff,c6]
 constructor
 ·rintro (h | ⟨y,d,h1,h2,h3,h4⟩)
  ·exact .inl h
  ·have hy:y < x:=by have:=ah h1; rwa [dsl_length] at this
   rw [dsl_get hy] at h1; cases h1
   exact .inr ⟨y,hy,h2,by rw [← T.lo hev0 (by omega)]; exact h3,by rw [← T.hi hev0 (by omega)]; exact h4⟩
 ·rintro (h | ⟨y,hy,h2,h3,h4⟩)
  ·exact .inl h
  ·exact .inr ⟨y,D y,dsl_get hy,h2,by rw [T.lo hev0 (by omega)]; exact h3,by rw [T.hi hev0 (by omega)]; exact h4⟩
theorem apart {x y i:Nat} (hx:x < n) (hy:y < n) (h1:(H x).size≤i) (h2:i < (H (x+1)).size) (h3:(H y).size≤i) (h4:i < (H (y+1)).size):x=y:=by
 rcases Nat.lt_trichotomy x y with h | h | h
 ·have:=T.mono hev0 (show x+1≤y from h) (by omega); omega
 ·exact h
 ·have:=T.mono hev0 (show y+1≤x from h) (by omega); omega
omit T hev0 in
theorem inRange {i:Nat} (h0:(H 0).size≤i):∀ {x:Nat},x≤n→i < (H x).size→∃ y,y < x∧(H y).size≤i∧i < (H (y+1)).size
 | 0,_,h=>by omega
 | x+1,hx,h=>by
  rcases a8 i (H x).size with h1 | h1
  ·obtain ⟨y,hy,h2⟩:=inRange h0 (by omega) h1
   exact ⟨y,by omega,h2⟩
  ·exact ⟨x,by omega,h1,h⟩
omit hev0 in
theorem noclash {x y:Nat} (hx:x < n) (hyx:y < x) (h:(ms x).testBit y=false):clash (D x) (D y)=false∨benign (H (x+1)) (D x) (D y)=true:=by
 obtain ⟨o,ho⟩:=T.all x hx
 rcases noClash_get _ 0 (T.one x o hx ho).2.2.2 y (D y) (dsl_get hyx) with h1 | h1
 ·rw [c6,h] at h1; cases h1
 ·exact h1
theorem writer {x y:Nat} (hx:x < n) (hw:(D x).wr≠none) (hyx:y < x) (hy:(H y).size < (H (y+1)).size):(ms x).testBit y=true:=by
 obtain ⟨o,ho⟩:=T.all x hx
 obtain ⟨_,_,_,_,hs | hs⟩:=T.spec hev0 hx ho
 ·obtain ⟨s1,g,_,_,_,h1 | h1 | h1⟩:=hs.run
  ·have:=allSeen_get _ 0 h1.1 y (D y) (dsl_get hyx)
   rw [c6,T.lo hev0 (by omega),T.hi hev0 (by omega)] at this
   rcases this with h2 | h2
   ·exact h2
   ·omega
  ·exact absurd h1.2.2.1 hw
  ·exact absurd h1.2.1 hw
 ·exact absurd hs.did.2.2 hw
end Txt
end
end Go.Abs

namespace Go.Abs
section
variable {E:Env}
open Classical in
noncomputable def maskM (vis:Nat→Prop) (k:Nat) (μ:MM):MM:=(List.range k).map fun i=>if vis i then (μ[i]?).getD none else none
theorem maskM_length (vis:Nat→Prop) (k:Nat) (μ:MM):(maskM vis k μ).length=k:=by simp [maskM]
theorem kg {vis:Nat→Prop} {k i:Nat} {μ:MM} (hi:i < k) (hk:k≤μ.length):(vis i→(maskM vis k μ)[i]? = μ[i]?)∧(¬ vis i→(maskM vis k μ)[i]? = some none):=by
 unfold maskM
 rw [bk,List.getElem?_range hi]
 simp only [bq]
 constructor
 ·intro h
  rw [if_pos h,aj (by omega)]; rfl
 ·intro h
  rw [if_neg h]
theorem jn {vis:Nat→Prop} {k i:Nat} {μ:MM} {m:M} (hk:k≤μ.length) (h:(maskM vis k μ)[i]? = some (some m)):vis i∧i < k∧μ[i]? = some (some m):=by
 have hi:i < k:=by have:=ah h; rwa [maskM_length] at this
 by_cases hv:vis i
 ·exact ⟨hv,hi,((kg hi hk).1 hv).symm.trans h⟩
 ·rw [(kg hi hk).2 hv] at h; cases h
variable {lo nt:Nat} {μ0 μ:MM} {w0 w:World} {ds:List Deferred} {s:Slots} {a:Act} {ν:Fr}
theorem Rel.mask {vis:Nat→Prop} {k:Nat} {objs os:List AObj} {base wm wm':Nat} (hr:Rel E μ ⟨objs,base,wm⟩ w) (hk:k≤objs.length) (hb:base≤k) (hos:os.length=k)
  (h1:∀ i,i < k→vis i→os[i]? = objs[i]?) (h2:∀ i,i < k→¬ vis i→os[i]? = some .dead) (hids:∀ i o,i < k→vis i→objs[i]? = some o→∀ j ∈ o.ids,j < k∧vis j):Rel E (maskM vis k μ) ⟨os,base,wm'⟩ w:=by
 have hkl:k≤μ.length:=by rw [hr.len]; exact hk
 constructor
 ·rw [maskM_length]; exact hos.symm
 ·simp only [hos]; exact hb
 ·intro i o ho
  simp only at ho
  have hi:i < k:=by rw [← hos]; exact ah ho
  by_cases hv:vis i
  ·rw [h1 i hi hv] at ho
   exact (hr.obj i o ho).same ((kg hi hkl).1 hv) fun j hj hl=>by
    obtain ⟨q1,q2⟩:=hids i o hi hv ho j hj
    exact (kg q1 hkl).1 q2
  ·rw [h2 i hi hv] at ho; cases ho
   exact (kg hi hkl).2 hv
 ·intro i j mi mj hij hi hmi hmj
  exact hr.sep i j mi mj hij hi (jn hkl hmi).2.2 (jn hkl hmj).2.2
 ·intro i m hm; exact hr.lt i m (jn hkl hm).2.2
 ·exact hr.tab.less fun i m hi hm=>⟨i,m,hi,(jn hkl hm).2.2,rfl⟩
theorem FRel.mask {vis:Nat→Prop} {k:Nat} {g:SlotFn} {tmps:Array Value} (h:FRel E lo ν μ g tmps w) (hk:k≤μ.length) (hids:∀ t y,g t=some y→∀ i ∈ y.ids,i < k∧vis i):FRel E lo ν (maskM vis k μ) g tmps w where
 val:=fun t v hv=>by
  obtain ⟨v',h1,h2⟩:=h.val t v hv
  exact ⟨v',h1,gt (fun i hi _=>by obtain ⟨q1,q2⟩:=hids t _ hv i hi; exact (kg q1 hk).1 q2) h2⟩
 undef:=h.undef
 var:=fun t cs hv=>by
  obtain ⟨h1,h2,c,e,fr,h3,h4,h5,h6⟩:=h.var t cs hv
  refine ⟨h1,h2,c,e,fr,h3,h4,fun q v hq=>?_,h6⟩
  obtain ⟨z1,v',z2,z3⟩:=h5 q v hq
  exact ⟨z1,v',z2,gt (fun i hi _=>by obtain ⟨q1,q2⟩:=hids t _ hv i (kx hq hi); exact (kg q1 hk).1 q2) z3⟩
 loc:=h.loc
 sepv:=h.sepv
 sepm:=fun t cs i m hv hm=>h.sepm t cs i m hv (jn hk hm).2.2
 ds:=h.ds
 sepd:=fun r hr=>⟨fun i m hm=>(h.sepd r hr).1 i m (jn hk hm).2.2,(h.sepd r hr).2⟩
 nodup:=h.nodup
open Classical in
noncomputable def joinM (vis:Nat→Prop) (lo1 hi1:Nat) (μ μ':MM):MM :=
 (List.range μ.length).map fun i=>if (i < lo1∧vis i)∨(lo1≤i∧i < hi1) then (μ'[i]?).getD none else (μ[i]?).getD none
theorem joinM_length (vis:Nat→Prop) (lo1 hi1:Nat) (μ μ':MM):(joinM vis lo1 hi1 μ μ').length=μ.length:=by simp [joinM]
def Now (vis:Nat→Prop) (lo1 hi1 i:Nat):Prop:=(i < lo1∧vis i)∨(lo1≤i∧i < hi1)
theorem joinM_get {vis:Nat→Prop} {lo1 hi1 i:Nat} {μ μ':MM} (hi:i < μ.length) (hl:μ'.length=hi1):(Now vis lo1 hi1 i→i < hi1→(joinM vis lo1 hi1 μ μ')[i]? = μ'[i]?)∧(¬ Now vis lo1 hi1 i→(joinM vis lo1 hi1 μ μ')[i]? = μ[i]?):=by
 unfold joinM Now
 rw [bk,List.getElem?_range hi]
 simp only [bq]
 constructor
 ·intro h h2
  rw [if_pos h,aj (by omega)]; rfl
 ·intro h
  rw [if_neg h,aj hi]; rfl
theorem At.join {objs objs':List AObj} {base wF lo1 hi1:Nat} {vis:Nat→Prop} {g:Heap} {μ':MM} {w':World} {d:Option Nat} {x:Slot} {v:Value}
  (k1:Step (fun k=>lo≤k) wF μ0 w0 μ w) (k2:Rel E μ ⟨objs,base,wF⟩ w) (k3:FRel E lo ν μ (sget s) a.tmps w) (k4:a.tmps.size=nt) (k5:a.defers=ν.ds.map markOf++ds) (k6:lo≤w.heap.size)
  (hle:lo1≤hi1) (hhi:hi1≤objs.length) (hb:base≤lo1)
  (j1:Step (fun _=>False) g.wmin (maskM vis lo1 μ) w μ' w') (j2:Rel E μ' g w') (hg:g.size=hi1) (hgb:g.base=base)
  (hhid:∀ i,i < lo1→¬ vis i→base≤i) (hμ0:μ0.length≤lo1∧∀ i,i < μ0.length→vis i) (hw:wF≤g.wmin∨lo1≤g.wmin)
  (_hdead:∀ i,lo1≤i→i < hi1→objs[i]? = some .dead) (hlen:objs'.length=objs.length)
  (hnow:∀ i,Now vis lo1 hi1 i→objs'[i]? = g.objs[i]?) (hels:∀ i,i < objs.length→¬ Now vis lo1 hi1 i→objs'[i]? = objs[i]?)
  (hidg:∀ i o,Now vis lo1 hi1 i→g.objs[i]? = some o→∀ j ∈ o.ids,Now vis lo1 hi1 j) (hido:∀ (i:Nat) o,objs[i]? = some o→∀ j ∈ o.ids,¬ (lo1≤j∧j < hi1))
  (hids:∀ t y,sget s t=some y→∀ j ∈ y.ids,¬ (lo1≤j∧j < hi1)) (hx:SlotIs E μ' x v) (hxid:∀ j ∈ x.ids,Now vis lo1 hi1 j) (hd:∀ t,d=some t→t < nt) :
  At E lo nt μ0 w0 ds (setSlot d x s) ⟨objs',base,wF⟩ (a.put d v) w':=by
 have hml:μ.length=objs.length:=k2.len
 have hkl:lo1≤μ.length:=by omega
 have hl':μ'.length=hi1:=by rw [j2.len]; exact hg
 have now_lt:∀ i,Now vis lo1 hi1 i→i < hi1:=fun i h=>by rcases h with h | h <;> omega
 have hstep:∀ i,i < lo1→vis i→μ'[i]? = μ[i]?∨(g.wmin≤i∧μ'[i]? = some none):=fun i hi hv=>by
  rcases j1.old i (by rw [maskM_length]; exact hi) with h | h
  ·exact .inl (h.trans ((kg hi hkl).1 hv))
  ·exact .inr h
 have hnew:∀ i m,lo1≤i→μ'[i]? = some (some m)→w.heap.size≤m.blk∨∃ r m0,g.wmin≤r∧r < lo1∧vis r∧μ[r]? = some (some m0)∧m0.blk=m.blk:=fun i m hi hm=>by
  rcases j1.new i m (by rw [maskM_length]; exact hi) hm with h | ⟨r,m0,h1,h2,h3⟩
  ·exact .inl h
  ·obtain ⟨q1,q2,q3⟩:=jn hkl h2
   exact .inr ⟨r,m0,h1,q2,q1,q3,h3⟩
 have hblk:∀ b,b < w.heap.size→(∀ i m,g.wmin≤i→i < lo1→vis i→μ[i]? = some (some m)→m.blk≠b)→w'.heap[b]? = w.heap[b]?:=fun b hb hn =>
  j1.block b hb (fun h=>h) fun i m hi hm=>by
   obtain ⟨q1,q2,q3⟩:=jn hkl hm
   exact hn i m hi q2 q1 q3
 let μ1:MM:=joinM vis lo1 lo1 μ μ'
 have hμ1l:μ1.length=μ.length:=joinM_length ..
 have hμ1:∀ i,i < μ.length→(i < lo1∧vis i→μ1[i]? = μ'[i]?)∧(¬ (i < lo1∧vis i)→μ1[i]? = μ[i]?):=fun i hi=>by
  show _∧_
  unfold μ1 joinM
  rw [bk,List.getElem?_range hi]
  simp only [bq]
  constructor
  ·intro h
   rw [if_pos (.inl h),aj (show i < μ'.length by omega)]; rfl
  ·intro h
   rw [if_neg (by rintro (h2 | h2); exact h h2; omega),aj hi]; rfl
 have hlater:Later μ μ1:=⟨by rw [hμ1l]; exact ai _,fun i hi=>by
  by_cases h:i < lo1∧vis i
  ·rcases hstep i h.1 h.2 with h1 | ⟨_,h1⟩
   ·exact .inl (((hμ1 i hi).1 h).trans h1)
   ·exact .inr (((hμ1 i hi).1 h).trans h1)
  ·exact .inl ((hμ1 i hi).2 h)⟩
 let μ2:MM:=joinM vis lo1 hi1 μ μ'
 have hμ2l:μ2.length=μ.length:=joinM_length ..
 have hnow2:∀ i,Now vis lo1 hi1 i→μ2[i]? = μ'[i]?:=fun i h=>(joinM_get (by have:=now_lt i h; omega) hl').1 h (now_lt i h)
 have hels2:∀ i,i < μ.length→¬ Now vis lo1 hi1 i→μ2[i]? = μ[i]?:=fun i hi h=>(joinM_get hi hl').2 h
 have h12:∀ i,i < μ.length→¬ (lo1≤i∧i < hi1)→μ2[i]? = μ1[i]?:=fun i hi h=>by
  by_cases h1:i < lo1∧vis i
  ·rw [hnow2 i (.inl h1),(hμ1 i hi).1 h1]
  ·rw [hels2 i hi (by rintro (h2 | h2); exact h1 h2; exact h h2),(hμ1 i hi).2 h1]
 have hfrom:∀ i m,μ2[i]? = some (some m)→(Now vis lo1 hi1 i∧μ'[i]? = some (some m))∨(¬ Now vis lo1 hi1 i∧μ[i]? = some (some m)):=fun i m hm=>by
  have hi:i < μ.length:=by rw [← hμ2l]; exact ah hm
  by_cases h:Now vis lo1 hi1 i
  ·exact .inl ⟨h,(hnow2 i h).symm.trans hm⟩
  ·exact .inr ⟨h,(hels2 i hi h).symm.trans hm⟩
 have hoth:∀ i m,¬ Now vis lo1 hi1 i→μ[i]? = some (some m)→base≤i:=fun i m h hm=>by
  rcases a8 i lo1 with h1 | h1
  ·exact hhid i h1 fun hv=>h (.inl ⟨h1,hv⟩)
  ·omega
 have hothblk:∀ i m,¬ Now vis lo1 hi1 i→μ[i]? = some (some m)→w'.heap[m.blk]? = w.heap[m.blk]?:=fun i m h hm =>
  hblk m.blk (k2.lt i m hm) fun j m' _ hj hv hm'=>(k2.sep i j m m' (fun e=>h (.inl ⟨by omega,by rw [e]; exact hv⟩)) (hoth i m h hm) hm hm').symm
 have hsz:=j1.size
 refine ⟨μ2,ν,?_,?_,?_,by rw [kr]; exact k4,by rw [je]; exact k5,b8 k6 hsz⟩
 ·-- since the frame began
  refine ⟨j1.os.trans k1.os,j1.tape.trans k1.tape,j1.output.trans k1.output,b8 k1.size hsz,?_,?_,?_,?_⟩
  ·intro b hb hx hn
   rw [← k1.block b hb hx hn]
   refine hblk b (dq hb k1.size) fun i m hi hil hv hm=>?_
   rcases a8 i μ0.length with h1 | h1
   ·rcases k1.old i h1 with h2 | ⟨_,h2⟩
    ·exact hn i m (show wF≤_ by rcases hw with hw | hw <;> omega) (h2.symm.trans hm)
    ·rw [h2] at hm; cases hm
   ·rcases k1.new i m h1 hm with h2 | ⟨r,m0,h2,h3,h4⟩
    ·omega
    ·rw [← h4]; exact hn r m0 h2 h3
  ·rw [hμ2l]; exact k1.len
  ·intro i hi
   have hv:=hμ0.2 i hi
   have hil:i < lo1:=by omega
   rw [hnow2 i (.inl ⟨hil,hv⟩)]
   rcases hstep i hil hv with h1 | ⟨h1,h2⟩
   ·rw [h1]; exact k1.old i hi
   ·exact .inr ⟨show wF≤_ by rcases hw with hw | hw <;> omega,h2⟩
  ·intro i m hi hm
   rcases hfrom i m hm with ⟨h1,h2⟩ | ⟨h1,h2⟩
   ·rcases a8 i lo1 with h3 | h3
    ·have hv:vis i:=by rcases h1 with h1 | h1; exact h1.2; omega
     rcases hstep i h3 hv with h4 | ⟨_,h4⟩
     ·exact k1.new i m hi (h4.symm.trans h2)
     ·rw [h2] at h4; cases h4
    ·rcases hnew i m h3 h2 with h4 | ⟨r,m0,h4,h5,h6,h7,h8⟩
     ·exact .inl (b8 k1.size h4)
     ·rcases a8 r μ0.length with h9 | h9
      ·rcases k1.old r h9 with q | ⟨_,q⟩
       ·exact .inr ⟨r,m0,show wF≤_ by rcases hw with hw | hw <;> omega,q.symm.trans h7,h8⟩
       ·rw [q] at h7; cases h7
      ·rcases k1.new r m0 h9 h7 with q | ⟨r',m1,q1,q2,q3⟩
       ·exact .inl (by rw [← h8]; exact q)
       ·exact .inr ⟨r',m1,q1,q2,q3.trans h8⟩
   ·exact k1.new i m hi h2
 ·-- memory
  constructor
  ·rw [hμ2l,hml]; exact hlen.symm
  ·simp only [hlen]; have:=k2.bs; exact this
  ·intro i o ho
   simp only at ho ⊢
   have hi:i < objs.length:=by rw [← hlen]; exact ah ho
   by_cases h:Now vis lo1 hi1 i
   ·rw [hnow i h] at ho
    have:=j2.obj i o ho
    rw [hgb] at this
    exact this.same (hnow2 i h) fun j hj _=>hnow2 j (hidg i o h ho j hj)
   ·rw [hels i hi h] at ho
    have h1:ORel E μ1 base i w' o:=(k2.obj i o ho).keep hlater fun m hm=>by
     have hi':i < μ.length:=ah hm
     exact ⟨((hμ1 i hi').2 fun h2=>h (.inl h2)).trans hm,hothblk i m h hm⟩
    exact h1.same (h12 i (by omega) fun h2=>h (.inr h2)) fun j hj hl=>h12 j (by rw [hμ1l] at hl; exact hl) (hido i o ho j hj)
  ·intro i j mi mj hij hi hmi hmj
   simp only at hi
   have both:∀ p q mp mq,p≠q→Now vis lo1 hi1 p→μ'[p]? = some (some mp)→¬ Now vis lo1 hi1 q→μ[q]? = some (some mq)→mp.blk≠mq.blk:=by
    intro p q mp mq hpq hp hmp hq hmq
    have hqb:=hoth q mq hq hmq
    rcases a8 p lo1 with h3 | h3
    ·have hv:vis p:=by rcases hp with h1 | h1; exact h1.2; omega
     rcases hstep p h3 hv with h4 | ⟨_,h4⟩
     ·exact (k2.sep q p mq mp (fun e=>hpq e.symm) hqb hmq (h4.symm.trans hmp)).symm
     ·rw [hmp] at h4; cases h4
    ·rcases hnew p mp h3 hmp with h4 | ⟨r,m0,h4,h5,h6,h7,h8⟩
     ·have:=k2.lt q mq hmq; omega
     ·rw [← h8]
      exact (k2.sep q r mq m0 (fun e=>hq (.inl ⟨by omega,by rw [e]; exact h6⟩)) hqb hmq h7).symm
   rcases hfrom i mi hmi with ⟨h1,h2⟩ | ⟨h1,h2⟩ <;> rcases hfrom j mj hmj with ⟨h3,h4⟩ | ⟨h3,h4⟩
   ·exact j2.sep i j mi mj hij (by rw [hgb]; exact hi) h2 h4
   ·exact both i j mi mj hij h1 h2 h3 h4
   ·exact (both j i mj mi (fun e=>hij e.symm) h3 h4 h1 h2).symm
   ·exact k2.sep i j mi mj hij hi h2 h4
  ·intro i m hm
   rcases hfrom i m hm with ⟨_,h2⟩ | ⟨_,h2⟩
   ·exact j2.lt i m h2
   ·have:=k2.lt i m h2; omega
  ·refine ⟨j2.tab.1,fun p hp=>⟨(j2.tab.2 p hp).1,(j2.tab.2 p hp).2.1,fun i m hi hm=>?_⟩⟩
   rcases hfrom i m hm with ⟨_,h2⟩ | ⟨_,h2⟩
   ·exact (j2.tab.2 p hp).2.2 i m (by rw [hgb]; exact hi) h2
   ·exact (k2.tab.2 p hp).2.2 i m hi h2
 ·-- slots
  have hvar:∀ t cs,sget s t=some (.var cs)→w'.heap[ν t]? = w.heap[ν t]?:=fun t cs hv=>hblk (ν t) (k3.lt hv) fun i m _ _ _ hm=>k3.sepm t cs i m hv hm
  have hblk2:∀ (i:Nat) (m:M),μ2[i]? = some (some m)→(∃ (r:Nat) (m0:M),μ[r]? = some (some m0)∧m0.blk=m.blk)∨w.heap.size≤m.blk:=fun i m hm=>by
   rcases hfrom i m hm with ⟨h1,h2⟩ | ⟨h1,h2⟩
   ·rcases a8 i lo1 with h3 | h3
    ·have hv:vis i:=by rcases h1 with h1 | h1; exact h1.2; omega
     rcases hstep i h3 hv with h4 | ⟨_,h4⟩
     ·exact .inl ⟨i,m,h4.symm.trans h2,rfl⟩
     ·rw [h2] at h4; cases h4
    ·rcases hnew i m h3 h2 with h4 | ⟨r,m0,_,_,_,h7,h8⟩
     ·exact .inr h4
     ·exact .inl ⟨r,m0,h7,h8⟩
   ·exact .inl ⟨i,m,h2,rfl⟩
  have hf2:FRel E lo ν μ2 (sget s) a.tmps w':=by
   have same2:∀ {cs:AVal} {v:Value},(∀ j ∈ cs.ids,¬ (lo1≤j∧j < hi1))→VRel E μ cs v→VRel E μ2 cs v:=fun h1 h2=>gt (fun j hj hl=>h12 j (by rw [hμ1l] at hl; exact hl) (h1 j hj)) (h2.later hlater)
   refine ⟨fun t u hu=>?_,k3.undef,fun t cs hu=>?_,k3.loc,k3.sepv,fun t cs i m hu hm=>?_,fun q hq=>?_,fun q hq=>⟨fun i m hm=>?_,(k3.sepd q hq).2⟩,k3.nodup⟩
   ·obtain ⟨v',h1,h2⟩:=k3.val t u hu
    exact ⟨v',h1,same2 (hids t _ hu) h2⟩
   ·obtain ⟨h1,h2,c,e,fr,h3,h4,h5,h6⟩:=k3.var t cs hu
    refine ⟨h1,h2,c,e,fr,(hvar t cs hu).trans h3,h4,fun q v hq=>?_,h6⟩
    obtain ⟨z1,v',z2,z3⟩:=h5 q v hq
    exact ⟨z1,v',z2,same2 (fun j hj=>hids t _ hu j (kx hq hj)) z3⟩
   ·rcases hblk2 i m hm with ⟨r,m0,h1,h2⟩ | h1
    ·rw [← h2]; exact k3.sepm t cs r m0 hu h1
    ·have:=k3.lt hu; omega
   ·obtain ⟨h1,h2⟩:=k3.ds q hq
    refine ⟨h1,?_⟩
    rw [hblk q (k3.lt_ds hq) fun i m _ _ _ hm=>(k3.sepd q hq).1 i m hm]; exact h2
   ·rcases hblk2 i m hm with ⟨r,m0,h1,h2⟩ | h1
    ·rw [← h2]; exact (k3.sepd q hq).1 r m0 h1
    ·have:=k3.lt_ds hq; omega
  rw [fz]
  have hd':∀ t,d=some t→t < a.tmps.size:=fun t ht=>by rw [k4]; exact hd t ht
  rcases hx with ⟨rfl,rfl⟩ | ⟨u,rfl,hu⟩
  ·exact (hf2.setUndef hd').congr fun t=>gd _ _ _ _
  ·exact (hf2.setVal hd' (gt (fun j hj _=>hnow2 j (hxid j hj)) hu)).congr fun t=>gd _ _ _ _
end
end Go.Abs

namespace Go.Abs
section
variable {ops:Array Oper}
theorem chain_trans {i j k:Nat} (h1:Chain ops i j) (h2:Chain ops j k):Chain ops i k:=by
 induction h1 with
 | one ho he hb=>exact .step ho he hb h2
 | step ho he hb _ ih=>exact .step ho he hb (ih h2)
theorem chain_lt (hb:edgesBack ops=true) {j i:Nat} (h:Chain ops j i):i < j:=by
 have step:∀ {j:Nat} {o:Oper} {e:Edge},ops[j]? = some o→e ∈ o.after→Region.binds .any e=true→e.on < j:=by
  intro j o e ho he hbb
  have hjs:j < ops.size:=ah (l:=ops.toList) (by simpa using ho)
  unfold edgesBack at hb
  rw [al] at hb
  have:=hb j (ce.2 hjs)
  rw [ho] at this
  simp only [Array.all_eq_true'] at this
  have:=this e he
  simpa [hbb] using this
 induction h with
 | one ho he hbb=>exact step ho he hbb
 | step ho he hbb _ ih=>have:=step ho he hbb; omega
theorem mask_edge (acc:List Nat) (l:List Edge) (s i:Nat) (e:Edge) (he:e ∈ l) (hb:Region.binds .any e=true) (h:e.on=i∨(acc.getD e.on 0).testBit i=true) :
  (l.foldl (fun s e=>if Region.binds .any e then s ||| 2 ^ e.on ||| acc.getD e.on 0 else s) s).testBit i=true:=by
 have keep:∀ (l:List Edge) (s:Nat),s.testBit i=true→(l.foldl (fun s e=>if Region.binds .any e then s ||| 2 ^ e.on ||| acc.getD e.on 0 else s) s).testBit i=true:=by
  intro l
  induction l with
  | nil=>exact fun s h=>h
  | cons x l ih =>
   intro s h
   simp only [iy]
   refine ih _ ?_
   split
   ·rw [Nat.testBit_or,Nat.testBit_or,h]; rfl
   ·exact h
 induction l generalizing s with
 | nil=>cases he
 | cons x l ih =>
  simp only [iy]
  rcases c9.1 he with rfl | he
  ·refine keep l _ ?_
   rw [if_pos hb,Nat.testBit_or,Nat.testBit_or,Nat.testBit_two_pow]
   rcases h with h | h
   ·simp [h]
   ·rw [h]; simp
  ·exact ih _ he
theorem chain_bit (hb:edgesBack ops=true):∀ (l:List Oper) (acc:List Nat),ops.toList.drop acc.length=l→(∀ k i,k < acc.length→Chain ops k i→(acc.getD k 0).testBit i=true) →
  ∀ k i,k < acc.length+l.length→Chain ops k i→((befs l acc).getD k 0).testBit i=true
 | [],acc,_,h,k,i,hk,hc=>h k i (by simpa using hk) hc
 | o :: l,acc,hd,h,k,i,hk,hc=>by
  simp only [befs]
  have ho:ops[acc.length]? = some o:=by
   have:=congrArg (fun l=>l[0]?) hd
   simpa using this
  refine chain_bit hb l (acc++[maskOf acc o]) ?_ (fun k' i' hk' hc'=>?_) k i (by simp at hk ⊢; omega) hc
  ·have:=congrArg List.tail hd
   simpa using this
  ·rcases a8 k' acc.length with h1 | h1
   ·rw [gn,ag h1,← gn]
    exact h k' i' h1 hc'
   ·have h2:k'=acc.length:=by simp at hk'; omega
    subst h2
    rw [gn,au (ai _)]
    simp only [Nat.sub_self,List.getElem?_cons_zero,df]
    unfold maskOf
    cases hc' with
    | one ho' he hbb=>rw [ho] at ho'; cases ho'; exact mask_edge acc _ 0 _ _ (by simpa using he) hbb (.inl rfl)
    | step ho' he hbb hrest =>
     rw [ho] at ho'; cases ho'
     refine mask_edge acc _ 0 _ _ (by simpa using he) hbb (.inr (h _ _ ?_ hrest))
     exact chain_lt hb (.one ho he hbb)
end
section
theorem heapOpds_reads {o:AOp} {x:Opd} (hx:x ∈ heapOpds o):∀ t ∈ x.reads,t ∈ o.reads:=by
 intro t ht
 have inL:∀ {xs:List Opd},x ∈ xs→t ∈ readsL xs:=by
  intro xs
  induction xs with
  | nil=>intro h; cases h
  | cons y ys ih =>
   intro h
   simp only [readsL,br]
   rcases c9.1 h with rfl | h
   ·exact .inl ht
   ·exact .inr (ih h)
 cases o <;> simp only [heapOpds,c9,List.not_mem_nil,or_false] at hx <;> (try (cases hx; done))
 case ext k xs=>cases k <;> (try simp only [List.not_mem_nil] at hx) <;> exact inL hx
 case append e b y z =>
  simp only [AOp.reads,br]
  rcases hx with rfl | rfl
  ·exact .inl ht
  ·exact .inr ht
 case slice k y a b c=>subst hx; simp only [AOp.reads,br]; exact .inl (.inl (.inl ht))
 all_goals (subst hx; simpa [AOp.reads] using ht)
theorem rdIds_congr {S S2:Slots} {o:AOp} (ha:Agree S S2 o.reads):rdIds o S2=rdIds o S:=by
 unfold rdIds
 have:∀ (l:List Opd),(∀ x ∈ l,x.ev S2=x.ev S)→(l.flatMap fun x=>match x.ev S2 with | some v=>v.ids | none=>[])=l.flatMap fun x=>match x.ev S with | some v=>v.ids | none=>[]:=by
  intro l
  induction l with
  | nil=>intro _; rfl
  | cons y l ih =>
   intro h
   rw [d0,d0,ih fun x hx=>h x (bd _ hx),h y (a7 ..)]
 exact this _ fun x hx=>di (ha.sub fun t ht=>heapOpds_reads hx t ht)
theorem rdIds_mem {o:AOp} {s:Slots} {x:Opd} {v:AVal} {i:Nat} (hx:x ∈ heapOpds o) (hv:x.ev s=some v) (hi:i ∈ v.ids):i ∈ rdIds o s:=by
 unfold rdIds
 rw [da]
 exact ⟨x,hx,by rw [hv]; exact hi⟩
theorem ke (d:Option Nat) (x:Slot) (s s2:Slots):setSlot d (dstSlot d (setSlot d x s)) s2=setSlot d x s2:=by
 cases d with
 | none=>rfl
 | some d=>simp [dstSlot,setSlot,sget]
variable {call:CallSem} {n:Nat} {ops:Nat→Option AOper} {ms:Nat→Nat} {S:Nat→Slots} {H:Nat→Heap} {r:Nat→Slot} {D:Nat→Did}
inductive SForm (o:AOper) (Sx:Slots) (Hx Hx':Heap) (rx:Slot) (d:Did):Prop where
 | none (x:Slot):evOper noCall o Sx ⟨Hx.objs,Hx.base,Hx.size⟩=some (setSlot o.dst x Sx,⟨Hx.objs,Hx.base,Hx.size⟩)→rx=dstSlot o.dst (setSlot o.dst x Sx)→Hx'=Hx→d.ch=Option.none→SForm o Sx Hx Hx' rx d
 | push (ob:AObj) (f:Nat→Slot):NewF f→evOper noCall o Sx ⟨Hx.objs,Hx.base,Hx.size⟩=some (setSlot o.dst (f Hx.size) Sx,(⟨Hx.objs,Hx.base,Hx.size⟩:Heap).push ob)→rx=dstSlot o.dst (setSlot o.dst (f Hx.size) Sx) →
   Hx'.objs=Hx.objs++[ob]→d.ch=Option.none→SForm o Sx Hx Hx' rx d
 | kill (i:Nat) (ob:AObj) (f:Nat→Slot):NewF f→i < Hx.size→Hx.base≤i→i ∈ rdIds o.op Sx→evOper noCall o Sx ⟨Hx.objs,Hx.base,Hx.size⟩=some (setSlot o.dst (f Hx.size) Sx,((⟨Hx.objs,Hx.base,Hx.size⟩:Heap).put i .dead).push ob) →
   rx=dstSlot o.dst (setSlot o.dst (f Hx.size) Sx)→Hx'.objs=Hx.objs.set i .dead++[ob]→d.ch=some i→Hx'.wmin≤i→SForm o Sx Hx Hx' rx d
 | put (i:Nat) (ob:AObj) (v:AVal):i < Hx.size→Hx.base≤i→i ∈ rdIds o.op Sx→evOper noCall o Sx ⟨Hx.objs,Hx.base,Hx.size⟩=some (setSlot o.dst (.val v) Sx,(⟨Hx.objs,Hx.base,Hx.size⟩:Heap).put i ob) →
   rx=dstSlot o.dst (setSlot o.dst (.val v) Sx)→Hx'.objs=Hx.objs.set i ob→d.ch=some i→Hx'.wmin≤i→SForm o Sx Hx Hx' rx d
theorem soft_form {n0 m:Nat} {ds:List Did} {o:AOper} {s:Slots} {h h':Heap} {y:Slot} {d:Did} (hs:soft o.op=true) (h1:OneSoft n0 m ds o s h y h' d):SForm o s h h' y d∧(h'.size=h.size→∀ i ∈ y.ids,okId n0 m ds i=true) ∧
  (∀ ob,h'.size=h.size+1→h'.objs[h.size]? = some ob→∀ i ∈ ob.ids,okId n0 m ds i=true)∧∀ i ob,h'.size=h.size→d.ch=some i→h'.objs[i]? = some ob→∀ j ∈ ob.ids,okId n0 m ds j=true:=by
 obtain ⟨s1,g,he,hy,hrest⟩:=h1.run
 have hform:=oper_heap hs h1.isc (h2:=⟨h.objs,h.base,h.size⟩) rfl (fun _ _ _ _ _ _=>rfl) he
 rcases hform with ⟨x,e1,e2,e3⟩ | ⟨ob,f,hf,e1,e2,e3⟩ | ⟨i,ob,f,hf,hb,hi,hir,e1,e2,e3⟩ | ⟨i,ob,v,hb,hi,hir,e1,e2,e3⟩
 ·subst e1; subst e2
  rcases hrest with ⟨_,_,q1,q2,q3⟩ | ⟨ob',_,q1,_⟩ | ⟨ob',q1,_⟩
  ·subst q2
   exact ⟨.none x e3 hy rfl q3,fun _=>q1,fun ob h2=>by omega,fun i ob _ h2=>by rw [q3] at h2; cases h2⟩
  ·simp only at q1; omega
  ·simp only [Heap.size] at q1; omega
 ·subst e1; subst e2
  rcases hrest with ⟨q1,_⟩ | ⟨ob',q1,_⟩ | ⟨ob',q1,q2,q3,q4⟩
  ·simp [Heap.push,Heap.size] at q1
  ·simp [Heap.push,Heap.size] at q1
  ·have hob:ob'=ob:=by
    simp only [Heap.push,Heap.size] at q2
    rw [au (ai _)] at q2
    simpa using q2.symm
   subst hob
   rcases q4 with ⟨q5,q6,q7⟩ | ⟨q5,q6,q7⟩
   ·subst q7
    refine ⟨.push _ f hf e3 hy rfl q6,fun h2=>by simp [Heap.push,Heap.size] at h2,fun ob2 _ h3=>?_,fun i ob _ h2=>by rw [q6] at h2; cases h2⟩
    simp only [Heap.push,Heap.size] at h3
    rw [au (ai _)] at h3
    simp at h3; subst h3
    exact q3
   ·simp [Heap.push] at q5
 ·subst e1; subst e2
  have hsz:(((⟨h.objs,h.base,h.size⟩:Heap).put i .dead).push ob).size=h.size+1:=by simp [Heap.push,Heap.put,Heap.size]
  rcases hrest with ⟨q1,_⟩ | ⟨ob',q1,_⟩ | ⟨ob',q1,q2,q3,q4⟩
  ·omega
  ·omega
  ·have hob:ob'=ob:=by
    simp only [Heap.push,Heap.put,Heap.size] at q2
    rw [au (by simp)] at q2
    simpa using q2.symm
   subst hob
   have hwm:(((⟨h.objs,h.base,h.size⟩:Heap).put i .dead).push ob').wmin=i:=by
    have hi':i < h.size:=hi
    simp only [Heap.push,Heap.put]; omega
   rcases q4 with ⟨q5,q6,q7⟩ | ⟨q5,q6,q7⟩
   ·have hi':i < h.size:=hi
    omega
   ·rw [hwm] at q6
    subst q7
    refine ⟨.kill i _ f hf hi hb hir e3 hy rfl q6 (by simp only [hwm]; exact ed _ _),fun h2=>by simp [Heap.push,Heap.put,Heap.size] at h2,fun ob2 _ h3=>?_,fun i2 ob2 h2=>by simp [Heap.push,Heap.put,Heap.size] at h2⟩
    simp only [Heap.push,Heap.put,Heap.size] at h3
    rw [au (by simp)] at h3
    simp at h3; subst h3
    exact q3
 ·have hi':i < h.size:=hi
  have hsz:((⟨h.objs,h.base,h.size⟩:Heap).put i ob).size=h.size:=by simp [Heap.put,Heap.size]
  have hwm:((⟨h.objs,h.base,h.size⟩:Heap).put i ob).wmin=i:=by simp only [Heap.put]; omega
  subst e2
  rcases hrest with ⟨_,q1,_⟩ | ⟨ob',q1,q2,q3,q4,q5,q6⟩ | ⟨ob',q1,_⟩
  ·omega
  ·rw [hwm] at q3 q5 q6
   have hob:ob'=ob:=by
    have hlt:i < h.objs.length:=hi
    simp only [Heap.put] at q3
    rw [f9,if_pos rfl,if_pos hlt] at q3
    exact (bz q3).symm
   subst hob
   rw [e1] at e3 hy
   subst q6
   refine ⟨.put i _ v hi hb hir e3 hy rfl q5 (ed _ _),fun _ i2 h2=>q4 i2 (c8 _ h2),fun ob2 h2=>by simp [Heap.put,Heap.size] at h2,fun i2 ob2 _ h2 h3 j hj=>?_⟩
   rw [q5] at h2; cases h2
   rw [q3] at h3; cases h3
   exact q4 j (eg _ hj)
  ·omega
namespace Txt
variable (T:Txt call n ops ms S H r D) (hev0:CallEvol call)
include T hev0
theorem form {x:Nat} {o:AOper} (hx:x < n) (ho:ops x=some o) (hc:o.op.isCall=false):SForm o (S x) (H x) (H (x+1)) (r x) (D x)∧(D x).isCall=false∧(D x).rd=rdIds o.op (S x)∧(D x).wr=none:=by
 obtain ⟨_,_,_,_,hs | hs⟩:=T.spec hev0 hx ho
 ·rw [hs.isc] at hc; cases hc
 ·exact ⟨(soft_form (T.soft x o hx ho) hs).1,hs.did⟩
theorem unwritten {x i:Nat} (hx:x < n) (hi:i < (H x).size) (hw:(D x).writes i=false):(H (x+1)).objs[i]? = (H x).objs[i]?:=by
 obtain ⟨o,ho⟩:=T.all x hx
 have hw2:(D x).ch≠some i∧∀ w A B,(D x).wr=some (w,A,B)→i < w∨sameAt A B i=true:=by
  unfold Did.writes at hw
  simp only [Bool.or_eq_false_iff,beq_eq_false_iff_ne] at hw
  refine ⟨hw.1,fun w A B h=>?_⟩
  have:=hw.2
  rw [h] at this
  simp only [Bool.and_eq_false_iff,decide_eq_false_iff_not,Bool.not_eq_false'] at this
  rcases this with h1 | h1
  ·exact .inl (by omega)
  ·exact .inr h1
 obtain ⟨_,_,_,_,hs | hs⟩:=T.spec hev0 hx ho
 ·obtain ⟨s1,g,he,_,_,h1⟩:=hs.run
  have hev:=jq hev0 he
  have hgo:i < g.wmin→allSeen (ms x) 0 (dsl D x)=true→g.objs[i]? = (H x).objs[i]?:=fun h2 h3=>by
   have:=hev.objs i (by simp only [Heap.size,ja]; exact hi) h2
   simp only [hide_all _ _ 0 _ h3] at this
   exact this
  rcases h1 with ⟨a1,a2,a3,a4⟩ | ⟨a1,a2,a3,a4⟩ | ⟨a1,a2,a3,a4⟩
  ·rw [a4]
   rcases hw2.2 _ _ _ a3 with h5 | h5
   ·exact hgo h5 a1
   ·exact sameAt_eq h5
  ·rw [a4]; exact hgo (by omega) a1
  ·rw [a4]; exact ag hi
 ·rcases (soft_form (T.soft x o hx ho) hs).1 with ⟨y,_,_,e,_⟩ | ⟨ob,f,_,_,_,e,_⟩ | ⟨j,ob,f,_,_,_,_,_,_,e,ec,_⟩ | ⟨j,ob,_,_,_,_,_,_,e,ec,_⟩
  ·rw [e]
  ·rw [e]; exact ag hi
  ·rw [e,ag (by rw [av]; exact hi),aq]
   intro e2; subst e2; exact hw2.1 ec
  ·rw [e,aq]
   intro e2; subst e2; exact hw2.1 ec
abbrev sz (H:Nat→Heap) (x:Nat):Nat:=(H x).size
omit T hev0 in
theorem upd_some {x i:Nat} (h:upd D (sz H) H x i≠none):i < (H (x+1)).size∧((H x).size≤i∨(D x).writes i=true):=by
 unfold upd at h
 split at h
 ·rename_i ht; exact ht
 ·exact absurd rfl h
theorem untouched {x y i:Nat} (hx:x < n) (hy:y < n) (hne:y≠x) (h1:(ms x).testBit y=false) (hvis:Vis ms H x i) (hnw:(D y).writes i=false):upd D (sz H) H y i=none:=by
 cases hu:upd D (sz H) H y i with
 | none=>rfl
 | some o =>
  exfalso
  obtain ⟨h2,h3⟩:=upd_some (D:=D) (H:=H) (x:=y) (i:=i) (by rw [hu]; simp)
  rcases h3 with h3 | h3
  ·rcases hvis with hv | ⟨z,hz,hb,h4,h5⟩
   ·have:=T.mono hev0 (eo y) (by omega); omega
   ·have:=T.apart hev0 (by omega) hy h4 h5 h3 h2
    subst this
    rw [hb] at h1; cases h1
  ·rw [hnw] at h3; cases h3
omit hev0 in
theorem noclash2 {x y:Nat} (hx:x < n) (hy:y < n) (hne:y≠x) (h1:(ms x).testBit y=false) (h2:(ms y).testBit x=false):(clash (D x) (D y)=false∨clash (D y) (D x)=false)∨(y < x∧benign (H (x+1)) (D x) (D y)=true)∨(x < y∧benign (H (y+1)) (D y) (D x)=true):=by
 rcases a8 y x with h | h
 ·rcases T.noclash hx h h1 with h3 | h3
  ·exact .inl (.inl h3)
  ·exact .inr (.inl ⟨h,h3⟩)
 ·rcases T.noclash hy (show x < y by omega) h2 with h3 | h3
  ·exact .inl (.inr h3)
  ·exact .inr (.inr ⟨by omega,h3⟩)
omit T hev0 in
theorem benign_of {h:Heap} {x d:Did} (hb:benign h x d=true):x.isCall=true∧d.isCall=false∧d.ch=none∧d.wr=none∧again h d.ld=true:=by
 unfold benign at hb
 simp only [az,dv,Option.isNone_iff_eq_none] at hb
 exact ⟨hb.1.1.1.1,hb.1.1.1.2,hb.1.1.2,hb.1.2,hb.2⟩
omit T hev0 in
theorem benign_writes {h:Heap} {x d:Did} (hb:benign h x d=true) (i:Nat):d.writes i=false:=by
 obtain ⟨_,_,h1,h2,_⟩:=benign_of hb
 simp [Did.writes,h1,h2]
omit T hev0 in
theorem clash_rd {x y:Did} (h:clash x y=false∨clash y x=false) (i:Nat) (hi:i ∈ x.rd++x.ch.toList):y.writes i=false:=by
 unfold clash at h
 simp only [Bool.or_eq_false_iff,List.any_eq_false] at h
 rcases h with h | h
 ·have:=h.2 i hi; simpa using this
 ·have:=h.1.2 i hi; simpa using this
omit T hev0 in
theorem clash_call {x y:Did} (h:clash x y=false∨clash y x=false) (hx:x.isCall=true):y.isCall=false∧y.ch=none:=by
 unfold clash at h
 simp only [Bool.or_eq_false_iff,List.any_eq_false,Bool.and_eq_false_iff] at h
 rcases h with h | h
 ·obtain ⟨⟨⟨⟨h1,h2⟩,h3⟩,h4⟩,h5⟩:=h
  refine ⟨?_,?_⟩
  ·rcases h1 with h1 | h1
   ·rw [hx] at h1; cases h1
   ·exact h1
  ·rcases h3 with h3 | h3
   ·cases hq:y.ch with
    | none=>rfl
    | some j=>rw [hq] at h3; cases h3
   ·rw [hx] at h3; cases h3
 ·obtain ⟨⟨⟨⟨h1,h2⟩,h3⟩,h4⟩,h5⟩:=h
  refine ⟨?_,?_⟩
  ·rcases h1 with h1 | h1
   ·exact h1
   ·rw [hx] at h1; cases h1
  ·rcases h2 with h2 | h2
   ·cases hq:y.ch with
    | none=>rfl
    | some j=>rw [hq] at h2; cases h2
   ·rw [hx] at h2; cases h2
theorem wr_call {y:Nat} (hy:y < n):(D y).isCall=false→(D y).wr=none:=by
 intro h
 obtain ⟨o,ho⟩:=T.all y hy
 obtain ⟨_,_,_,_,hs | hs⟩:=T.spec hev0 hy ho
 ·rw [hs.did.1] at h; cases h
 ·exact hs.did.2.2
theorem ch_rd {y i:Nat} (hy:y < n) (h:(D y).ch=some i):i ∈ (D y).rd∧i < (H y).size∧Vis ms H y i:=by
 obtain ⟨o,ho⟩:=T.all y hy
 obtain ⟨⟨_,hrd⟩,_,_,_,hs | hs⟩:=T.spec hev0 hy ho
 ·rw [hs.did.2.2] at h; cases h
 ·rcases (soft_form (T.soft y o hy ho) hs).1 with ⟨_,_,_,_,e⟩ | ⟨_,_,_,_,_,_,e⟩ | ⟨j,_,_,_,hj,_,hr,_,_,_,e,_⟩ | ⟨j,_,_,hj,_,hr,_,_,_,e,_⟩
  ·rw [e] at h; cases h
  ·rw [e] at h; cases h
  ·rw [e] at h; cases h
   exact ⟨by rw [hs.did.2.1]; exact hr,hj,(T.okId_iff hev0 hy).1 (hrd i hr)⟩
  ·rw [e] at h; cases h
   exact ⟨by rw [hs.did.2.1]; exact hr,hj,(T.okId_iff hev0 hy).1 (hrd i hr)⟩
theorem cvis {x y i:Nat} (hx:x < n) (hy:y < n) (hne:y≠x) (h1:(ms x).testBit y=false) (h2:(ms y).testBit x=false) (hc:(D x).isCall=true) (hvis:Vis ms H x i):upd D (sz H) H y i=none:=by
 refine T.untouched hev0 hx hy hne h1 hvis ?_
 rcases T.noclash2 hx hy hne h1 h2 with hcl | ⟨_,hb⟩ | ⟨_,hb⟩
 ·obtain ⟨q1,q2⟩:=clash_call hcl hc
  simp [Did.writes,q2,T.wr_call hev0 hy q1]
 ·exact benign_writes hb i
 ·rw [(benign_of hb).2.1] at hc; cases hc
theorem crd {x y i:Nat} (hx:x < n) (hy:y < n) (hne:y≠x) (h1:(ms x).testBit y=false) (h2:(ms y).testBit x=false) (hi:i ∈ (D x).rd) (hvis:Vis ms H x i) (hnb:¬ (x < y∧benign (H (y+1)) (D y) (D x)=true)):upd D (sz H) H y i=none:=by
 refine T.untouched hev0 hx hy hne h1 hvis ?_
 rcases T.noclash2 hx hy hne h1 h2 with hcl | ⟨_,hb⟩ | hb
 ·exact clash_rd hcl i (c8 _ hi)
 ·exact benign_writes hb i
 ·exact absurd hb hnb
theorem cww {x y i:Nat} (hx:x < n) (hy:y < n) (hne:y≠x) (h1:(ms x).testBit y=false) (h2:(ms y).testBit x=false) (hu:upd D (sz H) H x i≠none):upd D (sz H) H y i=none:=by
 cases hu2:upd D (sz H) H y i with
 | none=>rfl
 | some o =>
  exfalso
  obtain ⟨a1,a2⟩:=upd_some hu
  obtain ⟨b1,b2⟩:=upd_some (D:=D) (H:=H) (x:=y) (i:=i) (by rw [hu2]; simp)
  have hcl0:=T.noclash2 hx hy hne h1 h2
  have mk:∀ {x y:Nat},x < n→y < n→y≠x→(ms y).testBit x=false→i < (H (x+1)).size→(H x).size≤i→(D y).writes i=true→i < (H (y+1)).size→i < (H y).size→False:=by
   intro x y hx hy hne h2 a1 a2 b2 b1 b3
   have hyx:x < y:=by
    rcases Nat.lt_trichotomy x y with h | h | h
    ·exact h
    ·exact absurd h.symm hne
    ·have:=T.mono hev0 (show y≤x by omega) (by omega); omega
   unfold Did.writes at b2
   simp only [cd,beq_iff_eq] at b2
   rcases b2 with b2 | b2
   ·obtain ⟨_,_,hv⟩:=T.ch_rd hev0 hy b2
    rcases hv with hv | ⟨z,hz,hb,h4,h5⟩
    ·have:=T.mono hev0 (eo x) (by omega); omega
    ·have:=T.apart hev0 (by omega) hx h4 h5 a2 a1
     subst this
     rw [hb] at h2; cases h2
   ·have:=T.writer hev0 hy (fun e=>by rw [e] at b2; cases b2) hyx (by omega)
    rw [this] at h2; cases h2
  by_cases a3:(H x).size≤i
  ·by_cases b3:(H y).size≤i
   ·exact hne (T.apart hev0 hy hx b3 b1 a3 a1)
   ·exact mk hx hy hne h2 a1 a3 (b2.resolve_left b3) b1 (by omega)
  ·by_cases b3:(H y).size≤i
   ·exact mk hy hx (fun e=>hne e.symm) h1 b1 b3 (a2.resolve_left a3) a1 (by omega)
   ·have a4:=a2.resolve_left a3
    have b4:=b2.resolve_left b3
    rcases hcl0 with hcl | ⟨_,hb⟩ | ⟨_,hb⟩
    rotate_left
    ·rw [benign_writes hb i] at b4; cases b4
    ·rw [benign_writes hb i] at a4; cases a4
    unfold Did.writes at a4
    simp only [cd,beq_iff_eq] at a4
    rcases a4 with a4 | a4
    ·have:=clash_rd hcl i (eg _ (by rw [a4]; simp))
     rw [this] at b4; cases b4
    ·have hc:(D x).isCall=true:=by
      cases hq:(D x).isCall with
      | true=>rfl
      | false=>rw [T.wr_call hev0 hx hq] at a4; cases a4
     obtain ⟨q1,q2⟩:=clash_call hcl hc
     simp [Did.writes,q2,T.wr_call hev0 hy q1] at b4
end Txt
end
end Go.Abs

namespace Go.Abs
section
variable {E:Env}
theorem Rel.ids {μ:MM} {h:Heap} {w:World} (hr:Rel E μ h w) {i:Nat} {o:AObj} (ho:h.objs[i]? = some o):∀ j ∈ o.ids,j < h.size:=by
 have hat:At E w.heap.size 0 μ w [] [] ⟨h.objs,h.base,μ.length⟩ { tmps:=#[],defers:=[] } w :=
  ⟨μ,⟨fun _=>0,[]⟩,Step.refl _ _ _ _,hr.same rfl rfl rfl,⟨by simp [sget],by simp [sget],by simp [sget],by simp [sget],by simp [sget],by simp [sget],by simp,by simp,by simp,hr.tab.1⟩,rfl,rfl,ai _⟩
 exact hat.ids.2.1 i o ho
theorem app_last {l:List AObj} {o:AObj} {k:Nat} (h:l.length=k):(l++[o])[k]? = some o:=by
 subst h; simp
def restr (p:Nat→Bool) (s:Slots):Slots:=s.filter fun x=>p x.1
theorem restr_get (p:Nat→Bool):∀ (s:Slots) (t:Nat),sget (restr p s) t=if p t=true then sget s t else none
 | [],t=>by simp [restr,sget]
 | (u,x) :: s,t=>by
  have ih:=restr_get p s t
  unfold restr at ih ⊢
  rw [List.filter_cons]
  by_cases hu:p u=true
  ·rw [if_pos hu]
   simp only [sget]
   by_cases e:u=t
   ·subst e; simp [hu]
   ·rw [if_neg e,ih,if_neg e]
  ·rw [if_neg hu,ih]
   simp only [sget]
   by_cases e:u=t
   ·subst e; simp [hu]
   ·rw [if_neg e]
theorem cOper_dst {nt:Nat} {ops:Array Oper} {loc:Bool} {o:Oper} {o':AOper} (h:cOper E nt ops loc o=some o'):o'.dst=o.dst∧∀ t,o.dst=some t→t < nt:=by
 unfold cOper at h
 split at h
 case isFalse=>cases h
 rename_i hh
 simp only [az] at hh
 refine ⟨?_,fun t ht=>by have:=hh.1; rw [ht] at this; simpa using this⟩
 split at h
 ·cases h; rfl
 ·split at h
  ·cases h; rfl
  ·cases h
theorem gj {o:AOp} (h:soft o=true):calm o=true:=by
 cases o <;> simp_all [soft,calm]
variable {call:CallSem} {n:Nat} {aops:Nat→Option AOper} {ms:Nat→Nat} {S:Nat→Slots} {H:Nat→Heap} {r:Nat→Slot} {D:Nat→Did}
open Txt
noncomputable def memL (D:Nat→Did) (H:Nat→Heap) (n:Nat) (L:Nat→Bool):List AObj:=(List.range (H n).size).map (mem D (sz H) H L n)
theorem il (L:Nat→Bool):(memL D H n L).length=(H n).size:=by simp [memL]
theorem ft {L:Nat→Bool} {i:Nat} (hi:i < (H n).size):(memL D H n L)[i]? = some (mem D (sz H) H L n i):=by
 simp [memL,hi]
def okL (H:Nat→Heap) (n:Nat) (L:Nat→Bool) (i:Nat):Prop:=i < (H 0).size∨∃ y,y < n∧L y=true∧(H y).size≤i∧i < (H (y+1)).size
def okA (ms:Nat→Nat) (H:Nat→Heap) (n y i:Nat):Prop:=i < (H 0).size∨∃ z,z < n∧(z=y∨(ms y).testBit z=true)∧(H z).size≤i∧i < (H (z+1)).size
structure Inv (E:Env) (lo nt:Nat) (μ0:MM) (w0:World) (ds:List Deferred) (n:Nat) (ms:Nat→Nat) (H:Nat→Heap) (r:Nat→Slot) (D:Nat→Did) (L:Nat→Bool) (sD:Slots) (a:Act) (w:World):Prop where
 at':At E lo nt μ0 w0 ds sD ⟨memL D H n L,(H 0).base,(H n).wmin⟩ a w
 slots:∀ t y,sget sD t=some y→∀ i ∈ y.ids,okL H n L i
 vars:∀ t cs,sget sD t=some (.var cs)→∀ i ∈ AVal.idsL cs,i < (H 0).size
 down:∀ x y,x < n→L x=true→(ms x).testBit y=true→L y=true
 upds:∀ y,y < n→L y=true→(∀ i o,upd D (sz H) H y i=some o→∀ j ∈ o.ids,okA ms H n y j)∧∀ j ∈ (r y).ids,okA ms H n y j
variable {lo nt:Nat} {μ0:MM} {w0:World} {ds:List Deferred} {ops:Array Oper} {Q:Exit→Act→World→Prop} {ro:Option Nat}
structure Up (n:Nat) (ms:Nat→Nat) (L:Nat→Bool) (x:Nat):Prop where
 lt:x < n
 not:L x=false
 below:∀ y,y < n→(ms x).testBit y=true→L y=true
 above:∀ y,y < n→L y=true→(ms y).testBit x=false
section
variable (T:Txt call n aops ms S H r D) (hev0:CallEvol call)
include T hev0
omit T hev0 in
theorem Inv.objs {L:Nat→Bool} {sD:Slots} {a:Act} {w:World} (h0:∀ (i:Nat) o,(H 0).objs[i]? = some o→∀ j ∈ o.ids,j < (H 0).size) (hI:Inv E lo nt μ0 w0 ds n ms H r D L sD a w) (i:Nat):∀ j ∈ (mem D (sz H) H L n i).ids,okL H n L j:=by
 intro j hj
 rcases mem_from (D:=D) (sz:=sz H) (H:=H) (L:=L) (i:=i) n with ⟨h1,_⟩ | ⟨y,o,h1,h2,h3,h4⟩
 ·rw [h1] at hj
  cases hq:(H 0).objs[i]? with
  | none=>rw [hq] at hj; simp [AObj.ids] at hj
  | some o=>rw [hq] at hj; exact .inl (h0 i o hq j hj)
 ·rw [h4] at hj
  rcases (hI.upds y h1 h2).1 i o h3 j hj with h5 | ⟨z,hz,h5,h6⟩
  ·exact .inl h5
  ·rcases h5 with rfl | h5
   ·exact .inr ⟨z,hz,h2,h6⟩
   ·exact .inr ⟨z,hz,hI.down y z h1 h2 h5,h6⟩
theorem mem_at {L:Nat→Bool} {q i:Nat} (hq:q≤n) (h:∀ y,y < n→upd D (sz H) H y i≠none→L y=decide (y < q)):mem D (sz H) H L n i=((H q).objs[i]?).getD .dead:=by
 rw [← mem_text (D:=D) (sz:=sz H) (H:=H) (i:=i) (n:=n) (fun _=>rfl) (fun y hy=>(T.evol hev0 hy).size) (fun y i hy hi hw=>T.unwritten hev0 hy hi hw) q hq]
 obtain ⟨k,rfl⟩:∃ k,n=q+k:=⟨n - q,by omega⟩
 rw [← mem_prefix q k]
 exact mem_congr _ fun y hy hu=>h y hy hu
theorem mem_same {L:Nat→Bool} {x i:Nat} (hU:Up n ms L x) (h:∀ y,y < n→y≠x→(ms x).testBit y=false→(ms y).testBit x=false→(x < y→L y=true)→upd D (sz H) H y i=none) :
  mem D (sz H) H L n i=((H x).objs[i]?).getD .dead:=by
 have hx:=hU.lt
 refine mem_at T hev0 (by omega) fun y hy hu=>?_
 by_cases e:y=x
 ·subst e; rw [hU.not]; simp
 ·cases hb:(ms x).testBit y with
  | true =>
   rw [hU.below y hy hb]
   have:=T.back x y hx hb
   simp [this]
  | false =>
   cases hb2:(ms y).testBit x with
   | true =>
    have h1:=T.back y x hy hb2
    cases hl:L y with
    | false=>simp; omega
    | true =>
     have:=hU.above y hy hl
     rw [hb2] at this; cases this
   | false =>
    by_cases hl:x < y→L y=true
    ·exact absurd (h y hy e hb hb2 hl) hu
    ·have hxy:x < y:=Classical.byContradiction fun hh=>hl fun h=>absurd h hh
     have:L y=false:=by
      cases hq:L y with
      | false=>rfl
      | true=>exact absurd (fun _=>hq) hl
     rw [this]; simp; omega
def Late (n:Nat) (H:Nat→Heap) (D:Nat→Did) (L:Nat→Bool) (x y:Nat):Prop:=y < n∧L y=true∧x < y∧benign (H (y+1)) (D y) (D x)=true∧∃ i,i ∈ (D x).rd∧upd D (sz H) H y i≠none
omit T hev0 in
theorem late_max {L:Nat→Bool} {x:Nat}:∀ (k y:Nat),n - y≤k→Late n H D L x y→∃ z,Late n H D L x z∧∀ u,z < u→¬ Late n H D L x u
 | 0,y,hk,h=>absurd h.1 (by omega)
 | k+1,y,hk,h=>by
  by_cases hu:∃ u,y < u∧Late n H D L x u
  ·obtain ⟨u,h1,h2⟩:=hu
   exact late_max k u (by have:=h2.1; omega) h2
  ·exact ⟨y,h,fun u hyu hl=>hu ⟨u,hyu,hl⟩⟩
theorem mem_hit {L:Nat→Bool} {x i:Nat} {o:AObj} (hU:Up n ms L x) (hu:upd D (sz H) H x i=some o):mem D (sz H) H (fun y=>y == x || L y) n i=o:=by
 refine mem_insert_hit hU.lt hu fun y hy hxy hl=>?_
 refine T.cww hev0 hU.lt hy (by omega) ?_ (hU.above y hy hl) (by rw [hu]; simp)
 cases hb:(ms x).testBit y with
 | false=>rfl
 | true=>have:=T.back x y hU.lt hb; omega
theorem okL_new {L:Nat→Bool} {x i:Nat} (hU:Up n ms L x) (h:okL H n L i):¬ ((H x).size≤i∧i < (H (x+1)).size):=by
 rintro ⟨h1,h2⟩
 rcases h with h | ⟨y,hy,hl,h3,h4⟩
 ·have:=T.mono hev0 (eo x) (by have:=hU.lt; omega); omega
 ·have:=T.apart hev0 hU.lt hy h1 h2 h3 h4
  subst this
  rw [hU.not] at hl; cases hl
theorem okL_lt {L:Nat→Bool} {i:Nat} (h:okL H n L i):i < (H n).size:=by
 rcases h with h | ⟨y,hy,hl,h3,h4⟩
 ·exact dq h (T.mono hev0 (eo n) (ai _))
 ·exact dq h4 (T.mono hev0 hy (ai _))
omit hev0 in
theorem Inv.next {L:Nat→Bool} {sD:Slots} {a a':Act} {w w':World} {x:Nat} {o':AOper} (hU:Up n ms L x) (ho:aops x=some o') (hI:Inv E lo nt μ0 w0 ds n ms H r D L sD a w)
  (hat:At E lo nt μ0 w0 ds (setSlot o'.dst (r x) sD) ⟨memL D H n (fun y=>y == x || L y),(H 0).base,(H n).wmin⟩ a' w')
  (hr:∀ j ∈ (r x).ids,okA ms H n x j) (hu:∀ i o,upd D (sz H) H x i=some o→∀ j ∈ o.ids,okA ms H n x j) (hrv:∀ cs,r x ≠ .var cs):Inv E lo nt μ0 w0 ds n ms H r D (fun y=>y == x || L y) (setSlot o'.dst (r x) sD) a' w':=by
 have up:∀ {i},okL H n L i→okL H n (fun y=>y == x || L y) i:=fun h=>by
  rcases h with h | ⟨y,hy,hl,h3⟩
  ·exact .inl h
  ·exact .inr ⟨y,hy,by simp [hl],h3⟩
 have dn:∀ {j},okA ms H n x j→okL H n (fun y=>y == x || L y) j:=fun h=>by
  rcases h with h | ⟨z,hz,h1,h2⟩
  ·exact .inl h
  ·rcases h1 with rfl | h1
   ·exact .inr ⟨z,hz,by simp,h2⟩
   ·exact .inr ⟨z,hz,by simp [hU.below z hz h1],h2⟩
 refine ⟨hat,fun t y hy i hi=>?_,fun t cs hy i hi=>?_,fun y z hy hl hb=>?_,fun y hy hl=>?_⟩
 ·rw [dh] at hy
  split at hy
  ·cases hy; exact dn (hr i hi)
  ·exact up (hI.slots t y hy i hi)
 ·rw [dh] at hy
  split at hy
  ·exact absurd (bz hy) (hrv cs)
  ·exact hI.vars t cs hy i hi
 ·simp only [cd,beq_iff_eq] at hl ⊢
  rcases hl with rfl | hl
  ·by_cases hz:z < n
   ·exact .inr (hU.below z hz hb)
   ·have:=T.back y z hy hb; omega
  ·exact .inr (hI.down y z hy hl hb)
 ·simp only [cd,beq_iff_eq] at hl
  rcases hl with rfl | hl
  ·exact ⟨hu,hr⟩
  ·exact hI.upds y hy hl
theorem mem_new {L:Nat→Bool} {x i:Nat} (hU:Up n ms L x) (h1:(H x).size≤i) (h2:i < (H (x+1)).size):mem D (sz H) H L n i = .dead:=by
 have hx:=hU.lt
 have hu:upd D (sz H) H x i≠none:=by
  unfold upd
  rw [if_pos (show touched D (sz H) x i from ⟨h2,.inl h1⟩),aj (show i < (H (x+1)).objs.length from h2)]
  simp
 rcases mem_from (D:=D) (sz:=sz H) (H:=H) (L:=L) (i:=i) n with ⟨h3,_⟩ | ⟨y,o,h3,h4,h5,_⟩
 ·rw [h3,bp]
  ·rfl
  ·have:=T.mono hev0 (eo x) (by omega)
   show (H 0).size≤i
   omega
 ·exfalso
  have hne:y≠x:=fun e=>by subst e; rw [hU.not] at h4; cases h4
  have hb2:=hU.above y h3 h4
  cases hb:(ms x).testBit y with
  | false =>
   have:=T.cww hev0 hx h3 hne hb hb2 hu
   rw [h5] at this; cases this
  | true =>
   have hyx:=T.back x y hx hb
   obtain ⟨u1,_⟩:=upd_some (D:=D) (H:=H) (x:=y) (i:=i) (by rw [h5]; simp)
   have:=T.mono hev0 (show y+1≤x from hyx) (by omega)
   omega
omit T hev0 in
theorem load_run {call:CallSem} {o:AOper} {d:Nat} {k:Option Nat} {a:Opd} {s:Slots} {h:Heap} {i off:Nat} {v:AVal} (h1:o.guard=none) (h2:o.dst=some d) (h3:o.op = .load k a) (h4:a.adr s=some (.glob i off)) (h5:loadAt [] h (.glob i off) k=some v) :
  evOper call o s h=some (setSlot o.dst (.val v) s,h):=by
 unfold evOper evRun
 rw [h1,h3]
 simp only [evOp,h4]
 have:loadAt s h (.glob i off) k=some v:=h5
 rw [this]; rfl
omit T hev0 in
theorem load_keeps {call:CallSem} {o:AOper} {k:Option Nat} {a:Opd} {s s':Slots} {h h':Heap} (h1:o.guard=none) (h3:o.op = .load k a) (e:evOper call o s h=some (s',h')):h'=h:=by
 unfold evOper evRun at e
 rw [h1,h3] at e
 simp only [evOp] at e
 cases hq:a.adr s with
 | none=>rw [hq] at e; cases e
 | some ad =>
  rw [hq] at e
  cases hl:loadAt s h ad k with
  | none=>simp [ok1,hl] at e
  | some v=>simp [ok1,hl] at e; exact e.2.symm
theorem soft_late (hg:GidOK E) (h0:∀ (i:Nat) o,(H 0).objs[i]? = some o→∀ j ∈ o.ids,j < (H 0).size) (hμ0:μ0.length≤(H 0).size) (hbase0:(H 0).base≤(H 0).size) {L:Nat→Bool} {sD:Slots} {a:Act} {w:World} {x:Nat} {loc:Bool} {o:Oper} {o':AOper} (hU:Up n ms L x)
  (ho:aops x=some o') (hop:cOper E nt ops loc o=some o') (hc:o'.op.isCall=false) (hrv:∀ cs,r x ≠ .var cs) (hag:Agree (S x) sD o'.reads) (hI:Inv E lo nt μ0 w0 ds n ms H r D L sD a w)
  (next:Act→World→Prop) (hn:∀ a' w',Inv E lo nt μ0 w0 ds n ms H r D (fun y=>y == x || L y) (setSlot o'.dst (r x) sD) a' w'→next a' w')
  (hP:∃ y,Late n H D L x y) :
  if Region.wanted o (yielded ops a.tmps) then o.wpIn (F0 ro) 0 E.P a w next Q else next (a.put o.dst Go.undef) w:=by
 have hx:=hU.lt
 obtain ⟨y0,hl0⟩:=hP
 obtain ⟨y,hl,hmax⟩:=late_max n y0 (by omega) hl0
 obtain ⟨hy,hLy,hxy,hbn,i0,hi0,hu0⟩:=hl
 obtain ⟨hcl,hnc,hch,hwr,hag2⟩:=benign_of hbn
 have hb:(H (y+1)).base=(H 0).base:=T.base hev0 (by omega)
 have hsz0:(H 0).size≤(H x).size:=T.mono hev0 (eo x) (by omega)
 obtain ⟨hform,hd1,hd2,hd3⟩:=T.form hev0 hx ho hc
 obtain ⟨⟨hrok,hrd⟩,_,_,_,hsp⟩:=T.spec hev0 hx ho
 have hsoft:=T.soft x o' hx ho
 have hone:OneSoft (H 0).size (ms x) (dsl D x) o' (S x) (H x) (r x) (H (x+1)) (D x):=by
  rcases hsp with h | h
  ·rw [h.isc] at hc; cases hc
  ·exact h
 obtain ⟨_,hids1,hids2,hids3⟩:=soft_form hsoft hone
 have hld:∃ d k a i off v,o'.guard=none∧o'.dst=some d∧o'.op = .load k a∧a.adr (S x)=some (.glob i off)∧r x = .val v∧loadAt [] (H (y+1)) (.glob i off) k=some v:=by
  have h1:=hone.ld
  rw [h1] at hag2
  unfold ldOf at hag2
  split at hag2
  case h_2=>simp [again] at hag2
  rename_i k a hop'
  split at hag2
  case h_2=>simp [again] at hag2
  rename_i d hg' hd'
  split at hag2
  case h_2=>simp [again] at hag2
  rename_i i off v had hrx
  simp only [again] at hag2
  split at hag2
  case h_2=>cases hag2
  rename_i u hu
  have:=AVal.eq_of hag2
  subst this
  exact ⟨d,k,a,i,off,u,hg',hd',hop',had,hrx,hu⟩
 obtain ⟨d,k,a,i,off,v,hg',hd',hop',had,hrx,hload⟩:=hld
 have hrds:rdIds o'.op (S x)=[i]:=by
  unfold Opd.adr at had
  split at had
  case h_2=>cases had
  rename_i t
  split at had <;> cases had
  rename_i hs
  rw [hop']
  simp [rdIds,heapOpds,Opd.ev,hs,AVal.ids]
 have hii:i0=i:=by
  rw [hd2,hrds] at hi0
  simpa using hi0
 subst hii
 have hvis:=(T.okId_iff hev0 hx).1 (hrd i0 (by rw [hrds]; simp))
 have hkeep:∀ {s' h'},evOper noCall o' (S x) ⟨(H x).objs,(H x).base,(H x).size⟩=some (s',h')→h'=⟨(H x).objs,(H x).base,(H x).size⟩:=fun e=>load_keeps hg' hop' e
 have hnone:H (x+1)=H x∧(D x).ch=none:=by
  rcases hform with ⟨x0,e1,e2,e3,e4⟩ | ⟨ob,f,hf,e1,e2,e3,e4⟩ | ⟨j,ob,f,hf,hi,hib,hir,e1,e2,e3,e4,e5⟩ | ⟨j,ob,v,hi,hib,hir,e1,e2,e3,e4,e5⟩
  ·exact ⟨e3,e4⟩
  ·exfalso; have:=congrArg Heap.size (hkeep e1); simp [Heap.size,Heap.push] at this
  ·rw [hch] at e4; cases e4
  ·rw [hch] at e4; cases e4
 obtain ⟨e3,e4⟩:=hnone
 have hno:∀ j,upd D (sz H) H x j=none:=fun j=>by
  cases hu:upd D (sz H) H x j with
  | none=>rfl
  | some o2 =>
   exfalso
   obtain ⟨u1,u2⟩:=upd_some (D:=D) (H:=H) (x:=x) (i:=j) (by rw [hu]; simp)
   rw [e3] at u1
   rcases u2 with u2 | u2
   ·omega
   ·simp [Did.writes,e4,hd3] at u2
 have hmem:mem D (sz H) H L n i0=((H (y+1)).objs[i0]?).getD .dead:=by
  refine mem_at T hev0 (by omega) fun z hz hu=>?_
  by_cases hzx:z=x
  ·subst hzx; exact absurd (hno i0) hu
  ·rcases a8 y z with hyz | hyz
   ·rw [decide_eq_false (by omega)]
    cases hLz:L z with
    | false=>rfl
    | true =>
     exfalso
     have b2:=hU.above z hz hLz
     have b1:(ms x).testBit z=false:=by
      cases hq:(ms x).testBit z with
      | false=>rfl
      | true=>have:=T.back x z hx hq; omega
     by_cases hnb:x < z∧benign (H (z+1)) (D z) (D x)=true
     ·exact hmax z hyz ⟨hz,hLz,hnb.1,hnb.2,i0,hi0,hu⟩
     ·exact hu (T.crd hev0 hx hz hzx b1 b2 hi0 hvis hnb)
   ·rw [decide_eq_true (by omega)]
    cases hLz:L z with
    | true=>rfl
    | false =>
     exfalso
     have hzy:z≠y:=fun e=>by rw [e,hLy] at hLz; cases hLz
     have b1:(ms y).testBit z=false:=by
      cases hq:(ms y).testBit z with
      | false=>rfl
      | true=>have:=hI.down y z hy hLy hq; rw [hLz] at this; cases this
     have b2:(ms z).testBit y=false:=by
      cases hq:(ms z).testBit y with
      | false=>rfl
      | true=>have:=T.back z y hz hq; omega
     exact hu (T.cww hev0 hy hz hzy b1 b2 hu0)
 have hlt:i0 < (H (y+1)).size:=by
  have h1:i0 < (H x).size:=by
   rcases hvis with hv | ⟨z,hz,_,_,h4⟩
   ·omega
   ·have:=T.mono hev0 (show z+1≤x from hz) (by omega); omega
  have:=T.mono hev0 (show x≤y+1 by omega) (by omega)
  omega
 have hszn:(H (y+1)).size≤(H n).size:=T.mono hev0 hy (ai _)
 let W:=max (H n).size (H n).wmin
 have hW:(H n).wmin≤W:=Nat.le_max_right _ _
 have hheap:∀ {sX:Slots},rdIds o'.op sX=rdIds o'.op (S x)→∀ z ∈ heapOpds o'.op,∀ v,z.ev sX=some v→∀ i ∈ v.ids,(⟨memL D H n L,(H 0).base,W⟩:Heap).get i=(⟨(H (y+1)).objs,(H (y+1)).base,(H (y+1)).size⟩:Heap).get i:=by
  intro sX hr' z hz v hv j hj
  have h1:j ∈ rdIds o'.op (S x):=by rw [← hr']; exact rdIds_mem hz hv hj
  rw [hrds] at h1
  have:j=i0:=by simpa using h1
  subst this
  simp only [Heap.get]
  rw [ft (by omega),hmem]
  have h2':j < (H (y+1)).objs.length:=hlt
  rw [aj h2']; rfl
 have hrd':=rdIds_congr (o:=o'.op) (S:=S x) (S2:=sD) (hag.sub fun t ht=>c8 _ ht)
 have e1:evOper noCall o' (S x) ⟨(H (y+1)).objs,(H (y+1)).base,(H (y+1)).size⟩=some (setSlot o'.dst (.val v) (S x),⟨(H (y+1)).objs,(H (y+1)).base,(H (y+1)).size⟩):=load_run hg' hd' hop' had hload
 obtain ⟨x1,c1,c2,_⟩:=gh (gj hsoft) hag e1
 have okV:∀ {i},okId (H 0).size (ms x) (dsl D x) i=true→okA ms H n x i:=fun h=>by
  rcases (T.okId_iff hev0 hx).1 h with h | ⟨z,hz,hb',h2⟩
  ·exact .inl h
  ·exact .inr ⟨z,by omega,.inr hb',h2⟩
 rcases oper_heap (h1:=⟨(H (y+1)).objs,(H (y+1)).base,(H (y+1)).size⟩) (h2:=⟨memL D H n L,(H 0).base,W⟩) hsoft hc hb.symm (hheap hrd') c2 with ⟨x2,d1,_,d3⟩ | ⟨ob,f,_,_,d3,_⟩ | ⟨j,ob,f,_,_,_,_,_,d3,_⟩ | ⟨j,ob,_,_,hi2,_,_,d3,_⟩
 ·refine soft_step hg hop d3 hW hI.at' fun a' w' hat'=>hn a' w' ?_
  have hmemL:memL D H n (fun y=>y == x || L y)=memL D H n L:=by
   unfold memL
   apply List.map_congr_left
   intro j _
   exact gr (hno j)
  have hslot:setSlot o'.dst (r x) sD=setSlot o'.dst x2 sD:=by
   have:setSlot o'.dst (r x) sD=setSlot o'.dst (dstSlot o'.dst (setSlot o'.dst (.val v) (S x))) sD:=by
    rw [hrx,ke]
   rw [this,c1,ke,d1]
  exact Inv.next T hU ho hI (by rw [hmemL,hslot]; exact hat') (fun j hj=>okV (hids1 (by rw [e3]) j hj)) (fun j o2 hu=>by rw [hno j] at hu; cases hu) hrv
 ·exfalso; have:=congrArg Heap.size d3; simp [Heap.size,Heap.push] at this
 ·exfalso; have:=congrArg Heap.size d3; simp [Heap.size,Heap.push,Heap.put] at this
 ·exfalso
  have:=congrArg Heap.wmin d3
  have hi2':j < (H (y+1)).size:=hi2
  simp only [Heap.put] at this
  omega
theorem soft_up (hg:GidOK E) (h0:∀ (i:Nat) o,(H 0).objs[i]? = some o→∀ j ∈ o.ids,j < (H 0).size) (hμ0:μ0.length≤(H 0).size) (hbase0:(H 0).base≤(H 0).size) {L:Nat→Bool} {sD:Slots} {a:Act} {w:World} {x:Nat} {loc:Bool} {o:Oper} {o':AOper} (hU:Up n ms L x)
  (ho:aops x=some o') (hop:cOper E nt ops loc o=some o') (hc:o'.op.isCall=false) (hrv:∀ cs,r x ≠ .var cs) (hag:Agree (S x) sD o'.reads) (hI:Inv E lo nt μ0 w0 ds n ms H r D L sD a w)
  (next:Act→World→Prop) (hn:∀ a' w',Inv E lo nt μ0 w0 ds n ms H r D (fun y=>y == x || L y) (setSlot o'.dst (r x) sD) a' w'→next a' w') :
  if Region.wanted o (yielded ops a.tmps) then o.wpIn (F0 ro) 0 E.P a w next Q else next (a.put o.dst Go.undef) w:=by
 have hx:=hU.lt
 have hb:(H x).base=(H 0).base:=T.base hev0 (by omega)
 have hszx:(H x).size≤(H (x+1)).size:=(T.evol hev0 hx).size
 have hszn:(H (x+1)).size≤(H n).size:=T.mono hev0 hx (ai _)
 have h0x:(H 0).size≤(H x).size:=T.mono hev0 (eo x) (by omega)
 have hbase:(H 0).base≤(H x).size:=by omega
 obtain ⟨hform,hd1,hd2,hd3⟩:=T.form hev0 hx ho hc
 obtain ⟨⟨hrok,hrd⟩,_,_,_,hsp⟩:=T.spec hev0 hx ho
 have hsoft:=T.soft x o' hx ho
 have hone:OneSoft (H 0).size (ms x) (dsl D x) o' (S x) (H x) (r x) (H (x+1)) (D x):=by
  rcases hsp with h | h
  ·rw [h.isc] at hc; cases hc
  ·exact h
 obtain ⟨_,hids1,hids2,hids3⟩:=soft_form hsoft hone
 have okV:∀ {i},okId (H 0).size (ms x) (dsl D x) i=true→okA ms H n x i:=fun h=>by
  rcases (T.okId_iff hev0 hx).1 h with h | ⟨z,hz,hb',h2⟩
  ·exact .inl h
  ·exact .inr ⟨z,by omega,.inr hb',h2⟩
 have okVL:∀ {i},okId (H 0).size (ms x) (dsl D x) i=true→okL H n L i:=fun h=>by
  rcases (T.okId_iff hev0 hx).1 h with h | ⟨z,hz,hb',h2⟩
  ·exact .inl h
  ·exact .inr ⟨z,by omega,hU.below z (by omega) hb',h2⟩
 by_cases hP:∃ y,Late n H D L x y
 ·exact soft_late T hev0 hg h0 hμ0 hbase0 hU ho hop hc hrv hag hI next hn hP
 have hlook:∀ i ∈ (D x).rd,i < (H x).size∧mem D (sz H) H L n i=((H x).objs[i]?).getD .dead:=fun i hi=>by
  rw [hd2] at hi
  have hv:=(T.okId_iff hev0 hx).1 (hrd i hi)
  refine ⟨?_,mem_same T hev0 hU fun y hy hne h1 h2 hxl=>?_⟩
  rotate_left
  ·by_cases hnb:x < y∧benign (H (y+1)) (D y) (D x)=true
   ·cases hu:upd D (sz H) H y i with
    | none=>rfl
    | some o=>exact absurd ⟨y,hy,hxl hnb.1,hnb.1,hnb.2,i,by rw [hd2]; exact hi,by rw [hu]; simp⟩ hP
   ·exact T.crd hev0 hx hy hne h1 h2 (by rw [hd2]; exact hi) hv hnb
  rcases hv with hv | ⟨z,hz,_,_,h4⟩
  ·omega
  ·have:=T.mono hev0 (show z+1≤x from hz) (by omega); omega
 have hheap:∀ {sX:Slots},rdIds o'.op sX=rdIds o'.op (S x)→∀ y ∈ heapOpds o'.op,∀ v,y.ev sX=some v→∀ i ∈ v.ids,(⟨memL D H n L,(H 0).base,(H n).size⟩:Heap).get i=(⟨(H x).objs,(H x).base,(H x).size⟩:Heap).get i:=by
  intro sX hr' y hy v hv i hi
  have h1:i ∈ (D x).rd:=by rw [hd2,← hr']; exact rdIds_mem hy hv hi
  obtain ⟨h2,h3⟩:=hlook i h1
  simp only [Heap.get]
  rw [ft (by omega),h3]
  have h2':i < (H x).objs.length:=h2
  rw [aj h2']; rfl
 have hrd':=rdIds_congr (o:=o'.op) (S:=S x) (S2:=sD) (hag.sub fun t ht=>c8 _ ht)
 have hwn:(H n).wmin≤(H (x+1)).wmin:=T.wmin hev0 hx (ai _)
 let W:=max (H n).size (H n).wmin
 have hW:(H n).wmin≤W:=Nat.le_max_right _ _
 have hml:(memL D H n L).length=(H n).size:=il L
 have hne:∀ {i},(H x).size < (H (x+1)).size→okL H n L i→i < (H n).size∧i≠(H x).size:=fun h1 h=>⟨okL_lt T hev0 h,fun e=>okL_new T hev0 hU h ⟨by omega,by omega⟩⟩
 have hobj:∀ (k:Nat) (ob:AObj),(memL D H n L)[k]? = some ob→∀ i ∈ ob.ids,okL H n L i:=fun k ob hk i hi=>by
  have hk':k < (H n).size:=by rw [← hml]; exact ah hk
  rw [ft hk'] at hk; cases hk
  exact hI.objs h0 k i hi
 have hdst:=cOper_dst hop
 rcases hform with ⟨x0,e1,e2,e3,e4⟩ | ⟨ob,f,hf,e1,e2,e3,e4⟩ | ⟨i,ob,f,hf,hi,hib,hir,e1,e2,e3,e4,e5⟩ | ⟨i,ob,v,hi,hib,hir,e1,e2,e3,e4,e5⟩
 ·-- nothing is made
  obtain ⟨x1,c1,c2,_⟩:=gh (gj hsoft) hag e1
  rcases oper_heap (h1:=⟨(H x).objs,(H x).base,(H x).size⟩) (h2:=⟨memL D H n L,(H 0).base,W⟩) hsoft hc hb.symm (hheap hrd') c2 with ⟨x2,d1,_,d3⟩ | ⟨ob,f,_,_,d3,_⟩ | ⟨i,ob,f,_,_,_,_,_,d3,_⟩ | ⟨i,ob,_,_,hi2,_,_,d3,_⟩
  ·refine soft_step hg hop d3 hW hI.at' fun a' w' hat'=>hn a' w' ?_
   have hno:∀ j,upd D (sz H) H x j=none:=fun j=>by
    cases hu:upd D (sz H) H x j with
    | none=>rfl
    | some o2 =>
     exfalso
     obtain ⟨u1,u2⟩:=upd_some (D:=D) (H:=H) (x:=x) (i:=j) (by rw [hu]; simp)
     rw [e3] at u1
     rcases u2 with u2 | u2
     ·omega
     ·simp [Did.writes,e4,hd3] at u2
   have hmem:memL D H n (fun y=>y == x || L y)=memL D H n L:=by
    unfold memL
    apply List.map_congr_left
    intro j _
    exact gr (hno j)
   have hslot:setSlot o'.dst (r x) sD=setSlot o'.dst x2 sD:=by
    rw [e2,c1,ke,d1]
   refine Inv.next T hU ho hI (by rw [hmem,hslot]; exact hat') (fun j hj=>okV (hids1 (by rw [e3]) j hj)) (fun j o2 hu=>by rw [hno j] at hu; cases hu) hrv
  ·exfalso; have:=congrArg Heap.size d3; simp [Heap.size,Heap.push] at this
  ·exfalso; have:=congrArg Heap.size d3; simp [Heap.size,Heap.push,Heap.put] at this
  ·exfalso
   have:=congrArg Heap.wmin d3
   have hi2':i < (H x).size:=hi2
   simp only [Heap.put] at this
   omega
 ·-- an object is made
  have hsz1:(H (x+1)).size=(H x).size+1:=by simp [Heap.size,e3]
  obtain ⟨x1,c1,c2,_⟩:=gh (gj hsoft) hag e1
  rcases oper_heap (h1:=⟨(H x).objs,(H x).base,(H x).size⟩) (h2:=⟨memL D H n L,(H 0).base,W⟩) hsoft hc hb.symm (hheap hrd') c2 with ⟨x2,_,d2,_⟩ | ⟨ob2,f2,hf2,d1,d3,d4⟩ | ⟨i2,ob2,f2,_,_,hi2,_,_,d3,_⟩ | ⟨i2,ob2,_,_,hi2,_,_,d3,_⟩
  ·exfalso; have:=congrArg Heap.size d2; simp [Heap.size,Heap.push] at this
  ·have hob:ob2=ob:=by
    have:=congrArg Heap.objs d3
    simp [Heap.push] at this
    exact this.symm
   subst hob
   have hupd:∀ j,upd D (sz H) H x j=if j=(H x).size then some ob2 else none:=fun j=>by
    unfold upd touched
    by_cases hj:j=(H x).size
    ·subst hj
     rw [if_pos ⟨by rw [show sz H (x+1)=(H (x+1)).size from rfl,hsz1]; omega,.inl (ai _)⟩,if_pos rfl,e3]; exact app_last rfl
    ·rw [if_neg hj,if_neg]
     rintro ⟨h1,h2 | h2⟩
     ·have h1':j < (H (x+1)).size:=h1
      have h2':(H x).size≤j:=h2
      omega
     ·simp [Did.writes,e4,hd3] at h2
   have hobids:=hids2 ob2 hsz1 (by rw [e3]; exact app_last rfl)
   have hslot:setSlot o'.dst (r x) sD=setSlot o'.dst (f2 (H x).size) sD:=by
    rw [e2,c1,ke,d1]; rfl
   refine soft_step hg hop d4 (by simp only [Heap.push]; exact hW) hI.at' fun a' w' hat'=>hn a' w' ?_
   have hmv:=At.move (N:=(H n).size) (r:=(H x).size) (h:=⟨memL D H n L,(H 0).base,(H n).wmin⟩) (x:=f2 (H n).size) (ob:=ob2) (wm:=(H n).wmin) (d:=o'.dst) (s:=sD) (by
     have:(⟨memL D H n L,(H 0).base,W⟩:Heap).size=(H n).size:=hml
     rw [this] at hat'; exact hat') hml (by rw [ft (by omega),mem_new T hev0 hU (ai _) (by omega)]) (by
     have:(H 0).base≤(H x).size:=hbase
     exact this) (by omega) (fun t y hy i hi=>hne (by omega) (hI.slots t y hy i hi)) (fun v hv i hi=>by
     have:=hf2.ids (H n).size
     rw [hv] at this
     simp only [Slot.ids] at this
     rw [this] at hi
     simp at hi; omega) (fun cs=>hf2.novar _ cs) (fun i hi=>hne (by omega) (okVL (hobids i hi))) (fun k o2 hk i hi=>hne (by omega) (hobj k o2 hk i hi))
   rw [hf2.ren,← hslot] at hmv
   have hmem:(memL D H n L).set (H x).size ob2=memL D H n (fun y=>y == x || L y):=by
    apply gu
    intro j
    rcases a8 j (H n).size with hj | hj
    ·rw [ft hj]
     by_cases ej:j=(H x).size
     ·subst ej
      rw [f9,if_pos rfl,if_pos (by omega),mem_hit T hev0 hU (by rw [hupd,if_pos rfl])]
     ·rw [aq (fun e=>ej e.symm),ft hj,gr (by rw [hupd,if_neg ej])]
    ·rw [bp (by simp [hml]; exact hj),bp (by rw [il]; exact hj)]
   simp only [hmem] at hmv
   refine Inv.next T hU ho hI hmv (fun j hj=>?_) (fun j o2 hu k hk=>?_) hrv
   ·refine .inr ⟨x,hx,.inl rfl,?_⟩
    have:r x=f (H x).size∨r x = .undef:=by
     rw [e2]
     cases o'.dst with
     | none=>exact .inr rfl
     | some d=>exact .inl (by simp [dstSlot,setSlot,sget])
    rcases this with e | e
    ·rw [e,hf.ids] at hj; simp at hj; omega
    ·rw [e] at hj; simp [Slot.ids] at hj
   ·rw [hupd] at hu
    split at hu
    ·cases hu; exact okV (hobids k hk)
    ·cases hu
  ·exfalso
   have:=congrArg Heap.wmin d3
   have hi2':i2 < (H x).size:=hi2
   simp [Heap.push,Heap.put] at this
   omega
  ·exfalso; have:=congrArg Heap.size d3; simp [Heap.size,Heap.push,Heap.put] at this
 ·-- an object is made,another one is gone
  have hsz1:(H (x+1)).size=(H x).size+1:=by simp [Heap.size,e3]
  obtain ⟨x1,c1,c2,_⟩:=gh (gj hsoft) hag e1
  rcases oper_heap (h1:=⟨(H x).objs,(H x).base,(H x).size⟩) (h2:=⟨memL D H n L,(H 0).base,W⟩) hsoft hc hb.symm (hheap hrd') c2 with ⟨x2,_,d2,_⟩ | ⟨ob2,f2,hf2,d1,d3,d4⟩ | ⟨i2,ob2,f2,hf2,_,hi2,_,d1,d3,d4⟩ | ⟨i2,ob2,_,_,hi2,_,_,d3,_⟩
  ·exfalso; have:=congrArg Heap.size d2; simp [Heap.size,Heap.push,Heap.put] at this
  ·exfalso
   have:=congrArg Heap.wmin d3
   simp [Heap.push,Heap.put] at this
   omega
  rotate_left
  ·exfalso; have:=congrArg Heap.size d3; simp [Heap.size,Heap.push,Heap.put] at this
  ·have hi2':i2 < (H x).size:=hi2
   have hii:i2=i:=by
    have:=congrArg Heap.wmin d3
    simp [Heap.push,Heap.put] at this
    omega
   subst hii
   have hob:ob2=ob:=by
    have:=congrArg Heap.objs d3
    simp [Heap.push,Heap.put] at this
    exact this.symm
   subst hob
   have hupd:∀ j,upd D (sz H) H x j=if j=(H x).size then some ob2 else if j=i2 then some .dead else none:=fun j=>by
    unfold upd touched
    by_cases hj:j=(H x).size
    ·subst hj
     rw [if_pos ⟨by rw [show sz H (x+1)=(H (x+1)).size from rfl,hsz1]; omega,.inl (ai _)⟩,if_pos rfl,e3]; exact app_last (av ..)
    ·rw [if_neg hj]
     by_cases hj2:j=i2
     ·subst hj2
      rw [if_pos ⟨by rw [show sz H (x+1)=(H (x+1)).size from rfl,hsz1]; omega,.inr (by simp [Did.writes,e4])⟩,if_pos rfl,e3]
      have hlt:j < (H x).objs.length:=hi2
      rw [ag (by simpa using hlt),f9,if_pos rfl,if_pos hlt]
     ·rw [if_neg hj2,if_neg]
      rintro ⟨h1,h2 | h2⟩
      ·have h1':j < (H (x+1)).size:=h1
       have h2':(H x).size≤j:=h2
       omega
      ·simp [Did.writes,e4,hd3] at h2
       exact hj2 h2.symm
   have hobids:=hids2 ob2 hsz1 (by rw [e3]; exact app_last (av ..))
   have hslot:setSlot o'.dst (r x) sD=setSlot o'.dst (f2 (H x).size) sD:=by
    rw [e2,c1,ke,d1]; rfl
   refine soft_step hg hop d4 (by simp only [Heap.push,Heap.put]; omega) hI.at' fun a' w' hat'=>hn a' w' ?_
   have hml2:((memL D H n L).set i2 .dead).length=(H n).size:=by rw [av]; exact hml
   have hmv:=At.move (N:=(H n).size) (r:=(H x).size) (h:=⟨(memL D H n L).set i2 .dead,(H 0).base,(H n).wmin⟩) (x:=f2 (H n).size) (ob:=ob2) (wm:=(H n).wmin) (d:=o'.dst) (s:=sD) (by
     have:(⟨memL D H n L,(H 0).base,W⟩:Heap).size=(H n).size:=hml
     rw [this] at hat'; exact hat') hml2 (by rw [aq (by omega),ft (by omega),mem_new T hev0 hU (ai _) (by omega)]) (by
     have:(H 0).base≤(H x).size:=hbase
     exact this) (by omega) (fun t y hy i hi=>hne (by omega) (hI.slots t y hy i hi)) (fun v hv i hi=>by
     have:=hf2.ids (H n).size
     rw [hv] at this
     simp only [Slot.ids] at this
     rw [this] at hi
     simp at hi; omega) (fun cs=>hf2.novar _ cs) (fun i hi=>hne (by omega) (okVL (hobids i hi))) (fun k o2 hk i hi=>by
     by_cases ek:i2=k
     ·subst ek
      rw [f9,if_pos rfl] at hk
      split at hk
      ·cases hk; simp [AObj.ids] at hi
      ·cases hk
     ·rw [aq ek] at hk
      exact hne (by omega) (hobj k o2 hk i hi))
   rw [hf2.ren,← hslot] at hmv
   have hmem:((memL D H n L).set i2 .dead).set (H x).size ob2=memL D H n (fun y=>y == x || L y):=by
    apply gu
    intro j
    rcases a8 j (H n).size with hj | hj
    ·rw [ft hj]
     by_cases ej:j=(H x).size
     ·subst ej
      rw [f9,if_pos rfl,if_pos (by omega),mem_hit T hev0 hU (by rw [hupd,if_pos rfl])]
     ·rw [aq (fun e=>ej e.symm)]
      by_cases ej2:j=i2
      ·subst ej2
       rw [f9,if_pos rfl,if_pos (by omega),mem_hit T hev0 hU (by rw [hupd,if_neg ej,if_pos rfl])]
      ·rw [aq (fun e=>ej2 e.symm),ft hj,gr (by rw [hupd,if_neg ej,if_neg ej2])]
    ·rw [bp (by simp [hml]; exact hj),bp (by rw [il]; exact hj)]
   simp only [hmem] at hmv
   refine Inv.next T hU ho hI hmv (fun j hj=>?_) (fun j o2 hu k hk=>?_) hrv
   ·refine .inr ⟨x,hx,.inl rfl,?_⟩
    have:r x=f (H x).size∨r x = .undef:=by
     rw [e2]
     cases o'.dst with
     | none=>exact .inr rfl
     | some d=>exact .inl (by simp [dstSlot,setSlot,sget])
    rcases this with e | e
    ·rw [e,hf.ids] at hj; simp at hj; omega
    ·rw [e] at hj; simp [Slot.ids] at hj
   ·rw [hupd] at hu
    split at hu
    ·cases hu; exact okV (hobids k hk)
    ·split at hu
     ·cases hu; simp [AObj.ids] at hk
     ·cases hu
 ·-- an object is changed
  have hsz1:(H (x+1)).size=(H x).size:=by simp [Heap.size,e3]
  obtain ⟨x1,c1,c2,_⟩:=gh (gj hsoft) hag e1
  rcases oper_heap (h1:=⟨(H x).objs,(H x).base,(H x).size⟩) (h2:=⟨memL D H n L,(H 0).base,W⟩) hsoft hc hb.symm (hheap hrd') c2 with ⟨x2,_,d2,_⟩ | ⟨ob2,f2,hf2,d1,d3,d4⟩ | ⟨i2,ob2,f2,hf2,_,hi2,_,d1,d3,d4⟩ | ⟨i2,ob2,v2,_,hi2,_,d1,d3,d4⟩
  ·exfalso
   have:=congrArg Heap.wmin d2
   simp [Heap.put] at this
   omega
  ·exfalso; have:=congrArg Heap.size d3; simp [Heap.size,Heap.push,Heap.put] at this
  ·exfalso; have:=congrArg Heap.size d3; simp [Heap.size,Heap.push,Heap.put] at this
  ·have hi2':i2 < (H x).size:=hi2
   have hii:i2=i:=by
    have:=congrArg Heap.wmin d3
    simp [Heap.put] at this
    omega
   subst hii
   have hlt:i2 < (H x).objs.length:=hi
   have hob:ob2=ob:=by
    have:=congrArg (fun h:Heap=>h.objs[i2]?) d3
    simp only [Heap.put] at this
    rw [f9,if_pos rfl,if_pos hlt,f9,if_pos rfl,if_pos hlt] at this
    exact (bz this).symm
   subst hob
   have hupd:∀ j,upd D (sz H) H x j=if j=i2 then some ob2 else none:=fun j=>by
    unfold upd touched
    by_cases hj2:j=i2
    ·subst hj2
     rw [if_pos ⟨by rw [show sz H (x+1)=(H (x+1)).size from rfl,hsz1]; omega,.inr (by simp [Did.writes,e4])⟩,if_pos rfl,e3]
     rw [f9,if_pos rfl,if_pos hlt]
    ·rw [if_neg hj2,if_neg]
     rintro ⟨h1,h2 | h2⟩
     ·have h1':j < (H (x+1)).size:=h1
      have h2':(H x).size≤j:=h2
      omega
     ·simp [Did.writes,e4,hd3] at h2
      exact hj2 h2.symm
   have hobids:=hids3 i2 ob2 hsz1 e4 (by rw [e3,f9,if_pos rfl,if_pos hlt])
   have hslot:setSlot o'.dst (r x) sD=setSlot o'.dst (.val v2) sD:=by
    rw [e2,c1,ke,d1]
   rw [d1] at d4
   refine soft_step hg hop d4 (by simp only [Heap.put]; omega) hI.at' fun a' w' hat'=>hn a' w' ?_
   rw [← hslot] at hat'
   have hmem:(memL D H n L).set i2 ob2=memL D H n (fun y=>y == x || L y):=by
    apply gu
    intro j
    rcases a8 j (H n).size with hj | hj
    ·rw [ft hj]
     by_cases ej2:j=i2
     ·subst ej2
      rw [f9,if_pos rfl,if_pos (by omega),mem_hit T hev0 hU (by rw [hupd,if_pos rfl])]
     ·rw [aq (fun e=>ej2 e.symm),ft hj,gr (by rw [hupd,if_neg ej2])]
    ·rw [bp (by simp [hml]; exact hj),bp (by rw [il]; exact hj)]
   simp only [Heap.put,hmem] at hat'
   refine Inv.next T hU ho hI hat' (fun j hj=>okV (hids1 hsz1 j hj)) (fun j o2 hu k hk=>?_) hrv
   rw [hupd] at hu
   split at hu
   ·cases hu; exact okV (hobids k hk)
   ·cases hu
end
end
end Go.Abs

namespace Go.Abs
section
variable {E:Env} {call:CallSem} {n:Nat} {aops:Nat→Option AOper} {ms:Nat→Nat} {S:Nat→Slots} {H:Nat→Heap} {r:Nat→Slot} {D:Nat→Did}
variable {lo nt:Nat} {μ0:MM} {w0:World} {ds:List Deferred} {ops:Array Oper} {Q:Exit→Act→World→Prop} {ro:Option Nat}
open Txt
section
variable (T:Txt call n aops ms S H r D) (hev0:CallEvol call)
include T hev0
theorem vis_lt {x i:Nat} (hx:x < n) (h:Vis ms H x i):i < (H x).size:=by
 rcases h with h | ⟨y,hy,_,_,h4⟩
 ·exact dq h (T.mono hev0 (eo x) (by omega))
 ·exact dq h4 (T.mono hev0 hy (by omega))
theorem hid_iff {x i:Nat} (hx:x < n) (hi:i < (H x).size):Hid (ms x) 0 (dsl D x) i ↔ ¬ Vis ms H x i:=by
 constructor
 ·rintro ⟨y,d,h1,h2,h3,h4⟩ hv
  have hy:y < x:=by have:=ah h1; rwa [dsl_length] at this
  rw [dsl_get hy] at h1; cases h1
  rw [T.lo hev0 (by omega)] at h3
  rw [T.hi hev0 (by omega)] at h4
  rw [c6] at h2
  rcases hv with hv | ⟨z,hz,hb,h5,h6⟩
  ·have:=T.mono hev0 (eo y) (by omega); omega
  ·have:=T.apart hev0 (by omega) (by omega) h5 h6 h3 h4
   subst this
   rw [hb] at h2; cases h2
 ·intro hv
  have h0:(H 0).size≤i:=by
   rcases a8 i (H 0).size with h | h
   ·exact absurd (.inl h) hv
   ·exact h
  obtain ⟨y,hy,h1,h2⟩:=inRange h0 (x:=x) (ai x) hi
  refine ⟨y,D y,dsl_get hy,?_,by rw [T.lo hev0 (by omega)]; exact h1,by rw [T.hi hev0 (by omega)]; exact h2⟩
  rw [c6]
  cases hb:(ms x).testBit y with
  | false=>rfl
  | true=>exact absurd (.inr ⟨y,hy,hb,h1,h2⟩) hv
theorem all_vis {x i:Nat} (hx:x < n) (hall:allSeen (ms x) 0 (dsl D x)=true) (hi:i < (H x).size):Vis ms H x i:=by
 rcases a8 i (H 0).size with h | h
 ·exact .inl h
 ·obtain ⟨y,hy,h1,h2⟩:=inRange h (x:=x) (ai x) hi
  have:=allSeen_get _ 0 hall y (D y) (dsl_get hy)
  rw [c6,T.lo hev0 (by omega),T.hi hev0 (by omega)] at this
  rcases this with h3 | h3
  ·exact .inr ⟨y,hy,h3,h1,h2⟩
  ·omega
theorem call_up (hc0:CallOK E call) (hg:GidOK E) (h0:∀ (i:Nat) o,(H 0).objs[i]? = some o→∀ j ∈ o.ids,j < (H 0).size) (hμ0:μ0.length≤(H 0).size) (hbase0:(H 0).base≤(H 0).size) {L:Nat→Bool} {sD:Slots} {a:Act} {w:World} {x:Nat} {loc:Bool} {o:Oper} {o':AOper} (hU:Up n ms L x)
  (ho:aops x=some o') (hop:cOper E nt ops loc o=some o') (hc:o'.op.isCall=true) (hrv:∀ cs,r x ≠ .var cs) (hag:Agree (S x) sD o'.reads) (hI:Inv E lo nt μ0 w0 ds n ms H r D L sD a w)
  (next:Act→World→Prop) (hn:∀ a' w',Inv E lo nt μ0 w0 ds n ms H r D (fun y=>y == x || L y) (setSlot o'.dst (r x) sD) a' w'→next a' w') :
  if Region.wanted o (yielded ops a.tmps) then o.wpIn (F0 ro) 0 E.P a w next Q else next (a.put o.dst Go.undef) w:=by
 have hx:=hU.lt
 have hb:(H x).base=(H 0).base:=T.base hev0 (by omega)
 have hszx:(H x).size≤(H (x+1)).size:=(T.evol hev0 hx).size
 have hszn:(H (x+1)).size≤(H n).size:=T.mono hev0 hx (ai _)
 have h0x:(H 0).size≤(H x).size:=T.mono hev0 (eo x) (by omega)
 have hwn:(H n).wmin≤(H (x+1)).wmin:=T.wmin hev0 hx (ai _)
 obtain ⟨⟨hrok,_⟩,_,_,_,hsp⟩:=T.spec hev0 hx ho
 have hone:OneCall call (H 0).size (ms x) (dsl D x) o' (S x) (H x) (r x) (H (x+1)) (D x):=by
  rcases hsp with h | h
  ·exact h
  ·rw [h.isc] at hc; cases hc
 obtain ⟨hcall,hrd,hch⟩:=hone.did
 obtain ⟨s1,g,he,hry,hgsz,hrest⟩:=hone.run
 have hdst:=cOper_dst hop
 have hml:(memL D H n L).length=(H n).size:=il L
 have hevg:=jq hev0 he
 have hgb:g.base=(H 0).base:=hevg.base.trans hb
 have hms:∀ {i},Vis ms H x i→mem D (sz H) H L n i=((H x).objs[i]?).getD .dead:=fun hv=>mem_same T hev0 hU fun y hy hne h1 h2 _=>T.cvis hev0 hx hy hne h1 h2 hcall hv
 have hmsome:∀ {i},Vis ms H x i→(memL D H n L)[i]? = (H x).objs[i]?:=fun {i} hv=>by
  have hi:=vis_lt T hev0 hx hv
  have hi':i < (H x).objs.length:=hi
  rw [ft (by omega),hms hv,aj hi']; rfl
 have hclos:∀ i,Vis ms H x i→∀ j ∈ (mem D (sz H) H L n i).ids,Vis ms H x j:=fun i hv j hj=>by
  rcases mem_from (D:=D) (sz:=sz H) (H:=H) (L:=L) (i:=i) n with ⟨h1,_⟩ | ⟨y,ob,h1,h2,h3,h4⟩
  ·rw [h1] at hj
   cases hq:(H 0).objs[i]? with
   | none=>rw [hq] at hj; simp [AObj.ids] at hj
   | some ob=>rw [hq] at hj; exact .inl (h0 i ob hq j hj)
  ·rw [h4] at hj
   have hne:y≠x:=fun e=>by subst e; rw [hU.not] at h2; cases h2
   have hbit:(ms x).testBit y=true:=by
    cases hb:(ms x).testBit y with
    | true=>rfl
    | false =>
     have:=T.cvis hev0 hx h1 hne hb (hU.above y h1 h2) hcall hv
     rw [h3] at this; cases this
   rcases (hI.upds y h1 h2).1 i ob h3 j hj with h5 | ⟨z,hz,h5,h6⟩
   ·exact .inl h5
   ·have hbz:(ms x).testBit z=true:=by
     rcases h5 with rfl | h5
     ·exact hbit
     ·exact T.trans x y z hx hbit h5
    exact .inr ⟨z,T.back x z hx hbz,hbz,h6⟩
 obtain ⟨μ,ν,k1,k2,k3,k4,k5,k6⟩:=hI.at'
 have hkl:(H x).size≤μ.length:=by rw [k2.len]; simp only [hml]; omega
 have hvis:∀ i,i < (H x).size→(Vis ms H x i→(hide (ms x) 0 (dsl D x) (H x).objs)[i]? = (H x).objs[i]?)∧(¬ Vis ms H x i→(hide (ms x) 0 (dsl D x) (H x).objs)[i]? = some .dead):=fun i hi=>by
  have hi':i < (H x).objs.length:=hi
  obtain ⟨q1,q2⟩:=hide_get (m:=ms x) (i:=i) (dsl D x) 0 (H x).objs
  refine ⟨fun hv=>q2 fun h=>(hid_iff T hev0 hx hi).1 h hv,fun hv=>?_⟩
  rw [q1 ((hid_iff T hev0 hx hi).2 hv),aj hi']; rfl
 have hrm:Rel E (maskM (Vis ms H x) (H x).size μ) ⟨hide (ms x) 0 (dsl D x) (H x).objs,(H x).base,(H x).size⟩ w:=by
  have:=k2.mask (vis:=Vis ms H x) (k:=(H x).size) (os:=hide (ms x) 0 (dsl D x) (H x).objs) (wm':=(H x).size) (by rw [hml]; omega) (by omega) (ja ..) (fun i hi hv=>by rw [(hvis i hi).1 hv]; exact (hmsome hv).symm) (fun i hi hv=>(hvis i hi).2 hv) (fun i ob hi hv hob j hj=>by
   rw [ft (by omega)] at hob; cases hob
   have:=hclos i hv j hj
   exact ⟨vis_lt T hev0 hx this,this⟩)
  rw [hb]; exact this
 let p:Nat→Bool:=fun t=>o'.reads.contains t || isVar sD t
 have hag0:Agree (S x) (restr p sD) o'.reads:=by
  refine Agree.of (fun t ht=>?_) (fun t cs=>?_)
  ·rw [restr_get,if_pos (by simp [p,ht])]; exact hag.at_ t ht
  ·rw [hag.var t cs id,restr_get]
   constructor
   ·intro h; rw [if_pos (by simp [p,isVar,h])]; exact h
   ·intro h; split at h
    ·exact h
    ·cases h
 have hfm:FRel E lo ν (maskM (Vis ms H x) (H x).size μ) (sget (restr p sD)) a.tmps w:=by
  have hless:FRel E lo ν μ (sget (restr p sD)) a.tmps w:=k3.less fun t y hy=>by
   rw [restr_get] at hy; split at hy
   ·exact hy
   ·cases hy
  refine hless.mask hkl fun t y hy i hi=>?_
  rw [restr_get] at hy
  split at hy
  case isFalse=>cases hy
  rename_i hp
  have hv:Vis ms H x i:=by
   simp only [p,cd,List.contains_eq_mem,decide_eq_true_eq] at hp
   rcases hp with hp | hp
   ·refine (T.okId_iff hev0 hx).1 (hrok t hp i ?_)
    unfold slotIds
    rw [hag.at_ t hp,hy]; exact hi
   ·unfold isVar at hp
    rw [hy] at hp
    cases y with
    | var cs=>exact .inl (hI.vars t cs hy i hi)
    | _=>simp at hp
  exact ⟨vis_lt T hev0 hx hv,hv⟩
 obtain ⟨x1,c1,c2,_⟩:=gh (gj (T.soft x o' hx ho)) hag0 he
 refine call_step hc0 hg hop hc c2 hfm hrm fun x2 v w' μ' d1 d2 d3 d4=>?_
 have hgsz':g.size=(H (x+1)).size:=hgsz.symm
 have hgobj:∀ {i:Nat} {ob:AObj},g.objs[i]? = some ob→∀ j ∈ ob.ids,j < (H (x+1)).size:=fun ho' j hj=>by rw [← hgsz']; exact d4.ids ho' j hj
 have hrx:∃ v',SlotIs E μ' (r x) v'∧a.put o.dst v=a.put o'.dst v':=by
  rw [← hdst.1]
  cases hd:o'.dst with
  | none=>exact ⟨Go.undef,.inl ⟨by rw [hry,hd]; rfl,rfl⟩,rfl⟩
  | some d =>
   refine ⟨v,?_,rfl⟩
   have e1:x1=x2:=by
    rw [hd] at d1
    simp only [setSlot] at d1
    injection d1 with d1 _
    injection d1
   have e2:r x=x1:=by rw [hry,c1,hd]; simp [dstSlot,setSlot,sget]
   rw [e2,e1]; exact d2
 obtain ⟨v',hsl,hput⟩:=hrx
 rw [hput]
 have hrlt:∀ j ∈ (r x).ids,j < (H (x+1)).size:=fun j hj=>by
  rcases hsl with ⟨e,_⟩ | ⟨u,e,hu⟩
  ·rw [e] at hj; simp [Slot.ids] at hj
  ·rw [e] at hj
   have:=hu.ids_lt j hj
   rw [d4.len] at this
   have h2:g.objs.length=g.size:=rfl
   omega
 have hcase:(∀ i,i < (H (x+1)).size→(Now (Vis ms H x) (H x).size (H (x+1)).size i)→(H (x+1)).objs[i]? = g.objs[i]?)∧(∀ i,(D x).writes i=true→i < (H x).size→Vis ms H x i) ∧
   (∀ i ob,Now (Vis ms H x) (H x).size (H (x+1)).size i→g.objs[i]? = some ob→∀ j ∈ ob.ids,Now (Vis ms H x) (H x).size (H (x+1)).size j)∧(∀ j ∈ (r x).ids,Now (Vis ms H x) (H x).size (H (x+1)).size j)∧((H n).wmin≤g.wmin∨(H x).size≤g.wmin):=by
  have full:allSeen (ms x) 0 (dsl D x)=true→(H (x+1)).objs=g.objs→((H n).wmin≤g.wmin∨(H x).size≤g.wmin)→_:=fun hall hobj hw=>by
   have hnow:∀ j,j < (H (x+1)).size→Now (Vis ms H x) (H x).size (H (x+1)).size j:=fun j hj=>by
    rcases a8 j (H x).size with h | h
    ·exact .inl ⟨h,all_vis T hev0 hx hall h⟩
    ·exact .inr ⟨h,hj⟩
   exact And.intro (fun (i:Nat) (_:i < (H (x+1)).size) (_:Now (Vis ms H x) (H x).size (H (x+1)).size i)=>congrArg (fun l=>l[i]?) hobj) (And.intro (fun (i:Nat) (_:(D x).writes i=true) (hi:i < (H x).size)=>all_vis T hev0 hx hall hi)
    (And.intro (fun (i:Nat) (ob:AObj) (_:Now (Vis ms H x) (H x).size (H (x+1)).size i) (hob:g.objs[i]? = some ob) j hj=>hnow j (hgobj hob j hj)) (And.intro (fun j hj=>hnow j (hrlt j hj)) hw)))
  rcases hrest with ⟨q1,q2,q3,q4⟩ | ⟨q1,q2,q3,q4⟩ | ⟨q1,q2,q3,q4⟩
  ·refine full q1 (by rw [q4]) (.inl ?_)
   rw [q4] at hwn
   have:(H n).wmin≤min (H x).wmin g.wmin:=hwn
   omega
  ·exact full q1 (by rw [q4]) (.inr q2)
  ·have hgold:∀ i,i < (H x).size→g.objs[i]? = (hide (ms x) 0 (dsl D x) (H x).objs)[i]?:=fun i hi=>by
    have:=hevg.objs i (by simp only [Heap.size,ja]; exact hi) (by omega)
    exact this
   have hobj:(H (x+1)).objs=(H x).objs++g.objs.drop (H x).size:=by rw [q4]
   refine ⟨fun i hi hnow=>?_,fun i hw hi=>?_,fun i ob hnow hob j hj=>?_,fun j hj=>?_,.inr q1⟩
   ·rw [hobj]
    rcases a8 i (H x).size with h | h
    ·have h':i < (H x).objs.length:=h
     rw [ag h',hgold i h]
     refine ((hvis i h).1 ?_).symm
     rcases hnow with h2 | h2
     ·exact h2.2
     ·omega
    ·have h':(H x).objs.length≤i:=h
     rw [au h',cq]
     congr 1
     show (H x).size+(i - (H x).size)=i
     omega
   ·simp [Did.writes,hch,q2] at hw
   ·have hjl:=hgobj hob j hj
    rcases a8 i (H x).size with h | h
    ·have hv:Vis ms H x i:=by
      rcases hnow with h2 | h2
      ·exact h2.2
      ·omega
     rw [hgold i h,(hvis i h).1 hv,← hmsome hv,ft (by omega)] at hob
     cases hob
     have:=hclos i hv j hj
     exact .inl ⟨vis_lt T hev0 hx this,this⟩
    ·have hmem:ob ∈ g.objs.drop (H x).size:=by
      refine bn (i:=i - (H x).size) ?_
      rw [cq,show (H x).size+(i - (H x).size)=i by omega]; exact hob
     rcases q3 j (eg _ (da.2 ⟨ob,hmem,hj⟩)) with h2 | h2
     ·have:=(T.okId_iff hev0 hx).1 h2
      exact .inl ⟨vis_lt T hev0 hx this,this⟩
     ·exact .inr ⟨h2,hjl⟩
   ·rcases q3 j (c8 _ hj) with h2 | h2
    ·have:=(T.okId_iff hev0 hx).1 h2
     exact .inl ⟨vis_lt T hev0 hx this,this⟩
    ·exact .inr ⟨h2,hrlt j hj⟩
 obtain ⟨hc1,hc2,hc3,hc4,hc5⟩:=hcase
 have htouch:∀ i,touched D (sz H) x i→Now (Vis ms H x) (H x).size (H (x+1)).size i:=fun i ⟨t1,t2⟩=>by
  have t1':i < (H (x+1)).size:=t1
  rcases a8 i (H x).size with h | h
  ·rcases t2 with t2 | t2
   ·have t2':(H x).size≤i:=t2
    omega
   ·exact .inl ⟨h,hc2 i t2 h⟩
  ·exact .inr ⟨h,t1'⟩
 have hnowlt:∀ i,Now (Vis ms H x) (H x).size (H (x+1)).size i→i < (H (x+1)).size:=fun i h=>by rcases h with h | h <;> omega
 have hmem:∀ i,Now (Vis ms H x) (H x).size (H (x+1)).size i→(memL D H n fun y=>y == x || L y)[i]? = (H (x+1)).objs[i]?:=fun i hnow=>by
  have hi:=hnowlt i hnow
  have hi':i < (H (x+1)).objs.length:=hi
  rw [ft (by omega)]
  by_cases ht:touched D (sz H) x i
  ·have hu:upd D (sz H) H x i=some ((H (x+1)).objs[i]):=by unfold upd; rw [if_pos ht,aj hi']
   rw [mem_hit T hev0 hU hu,aj hi']
  ·have hu:upd D (sz H) H x i=none:=by unfold upd; rw [if_neg ht]
   rw [gr hu]
   have hlt:i < (H x).size:=by
    rcases a8 i (H x).size with h | h
    ·exact h
    ·exact absurd ⟨hi,.inl h⟩ ht
   have hv:Vis ms H x i:=by
    rcases hnow with h | h
    ·exact h.2
    ·omega
   have hw:(D x).writes i=false:=by
    cases hq:(D x).writes i with
    | false=>rfl
    | true=>exact absurd ⟨hi,.inr hq⟩ ht
   rw [hms hv,T.unwritten hev0 hx hlt hw]
   have hlt':i < (H x).objs.length:=hlt
   rw [aj hlt']; rfl
 have hatj:=At.join (E:=E) (lo:=lo) (nt:=nt) (ds:=ds) (objs:=memL D H n L) (objs':=memL D H n fun y=>y == x || L y) (base:=(H 0).base) (wF:=(H n).wmin) (lo1:=(H x).size) (hi1:=(H (x+1)).size) (vis:=Vis ms H x) (d:=o'.dst) (x:=r x) (v:=v')
  k1 k2 k3 k4 k5 k6 hszx (by rw [hml]; exact hszn) (by omega) d3 d4 hgsz' hgb (fun i hi hv=>by
   rcases a8 i (H 0).size with h | h
   ·exact absurd (.inl h) hv
   ·omega) ⟨by omega,fun i hi=>.inl (by omega)⟩ hc5 (fun i h1 h2=>by rw [ft (by omega),mem_new T hev0 hU h1 h2]) (by rw [il,il]) (fun i hnow=>by rw [hmem i hnow,hc1 i (hnowlt i hnow) hnow])
  (fun i hi hnow=>by
   rw [hml] at hi
   rw [ft hi,ft hi,gr]
   unfold upd
   rw [if_neg fun ht=>hnow (htouch i ht)]) hc3 (fun i ob hob j hj=>okL_new T hev0 hU (by
   have hi:i < (H n).size:=by rw [← hml]; exact ah hob
   rw [ft hi] at hob; cases hob
   exact hI.objs h0 i j hj)) (fun t y hy j hj=>okL_new T hev0 hU (hI.slots t y hy j hj)) hsl hc4 (fun t ht=>hdst.2 t (by rw [← hdst.1]; exact ht))
 have okN:∀ j,Now (Vis ms H x) (H x).size (H (x+1)).size j→okA ms H n x j:=fun j h=>by
  rcases h with h | h
  ·rcases h.2 with h2 | ⟨z,hz,hb',h2⟩
   ·exact .inl h2
   ·exact .inr ⟨z,by omega,.inr hb',h2⟩
  ·exact .inr ⟨x,hx,.inl rfl,h⟩
 refine hn _ _ (Inv.next T hU ho hI hatj (fun j hj=>okN j (hc4 j hj)) (fun i ob hu j hj=>?_) hrv)
 unfold upd at hu
 split at hu
 ·rename_i ht
  have hnow:=htouch i ht
  rw [hc1 i (hnowlt i hnow) hnow] at hu
  exact okN j (hc3 i ob hnow hu j hj)
 ·cases hu
end
end
end Go.Abs

namespace Go.Abs
section
variable {E:Env} {lo nt:Nat} {μ0:MM} {w0:World} {ds:List Deferred} {s:Slots} {h:Heap} {call:CallSem} {ops:Array Oper} {locs:List Nat} {as:List AOper} {Q:Exit→Act→World→Prop} {ro:Option Nat}
open Txt
theorem At.lower {a:Act} {w:World} {os:List AObj} {base wm wm':Nat} (hat:At E lo nt μ0 w0 ds s ⟨os,base,wm⟩ a w) (hw:wm'≤wm):At E lo nt μ0 w0 ds s ⟨os,base,wm'⟩ a w:=by
 obtain ⟨μ,ν,k1,k2,k3⟩:=hat
 exact ⟨μ,ν,k1.weaken hw fun _ h _=>h,k2.same rfl rfl rfl,k3⟩
theorem open_any (hc:CallOK E call) (hev0:CallEvol call) (hg:GidOK E) (has:cOpers E nt ops locs 0 ops.toList=some as) (hb:edgesBack ops=true)
  {p n:Nat} {h1:Heap} {s1:Slots} (hpn:p+n≤as.length) (hw1:waits (befs ops.toList []) (p+n)=true)
  (hap:∀ x y oi oj,x < n→y < n→as[p+x]? = some oi→as[p+y]? = some oj→apart (befs ops.toList []) (p+x) (p+y) oi oj=true)
  (hsoft:∀ x o,x < n→as[p+x]? = some o→soft o.op=true) {ms:List Nat} (hms:∀ x,x < n→ms.getD x 0=(befs ops.toList []).getD (p+x) 0 >>> p)
  (hev:evOpen call ms ((as.drop p).take n) s h=some (s1,h1))
  (hk:∀ listed' a' w',Exact ops listed' (p+n)→At E lo nt μ0 w0 ds s1 h1 a' w'→wpAnyIn (F0 ro) 0 E.P .any ops Q (ops.size - (p+n)) listed' a' w') :
  ∀ listed a w,Exact ops listed p→At E lo nt μ0 w0 ds s h a w→wpAnyIn (F0 ro) 0 E.P .any ops Q (ops.size - p) listed a w:=by
 intro listed a w hex hat
 obtain ⟨q1,q2⟩:=iu _ _ _ has
 simp only [ep] at q1
 have hchain:=j9 (ops:=ops) ops.toList [] (by simp) (fun k i hk=>by simp at hk)
 have hbit:=chain_bit hb ops.toList [] (by simp) (fun k i hk=>by simp at hk)
 have hseg:∀ x,x < n→((as.drop p).take n)[x]? = as[p+x]?:=fun x hx=>by rw [dy hx,cq]
 have hslen:((as.drop p).take n).length=n:=by simp; omega
 obtain ⟨S,H,r,D,b1,b2,b3,b4,b5⟩:=open_text _ _ _ _ _ _ _ hev
 rw [hslen] at b3 b4
 have opat:∀ x,x < n→∃ o o',ops[p+x]? = some o∧as[p+x]? = some o'∧cOper E nt ops (locs.contains (p+x)) o=some o':=by
  intro x hx
  have hlt:p+x < ops.size:=by omega
  obtain ⟨o',h2,h3⟩:=q2 (p+x) ops[p+x] (by simp [hlt])
  exact ⟨ops[p+x],o',by simp [hlt],h2,by simpa using h3⟩
 have tb:∀ x y,x < n→((ms.getD x 0).testBit y=true ↔ ((befs ops.toList []).getD (p+x) 0).testBit (p+y)=true):=fun x y hx=>by
  rw [hms x hx,Nat.testBit_shiftRight]
 have T:Txt call n (fun x=>as[p+x]?) (fun x=>ms.getD x 0) S H r D:=by
  refine ⟨fun x o hx ho=>?_,fun x hx=>?_,fun x o hx ho=>hsoft x o hx ho,fun x y hx hy=>?_,fun x y z hx hy hz=>?_⟩
  ·have:=b5 x o (by rw [hseg x hx]; exact ho)
   simp only [eh] at this
   rw [← b2] at this
   exact this
  ·obtain ⟨_,o',_,h2,_⟩:=opat x hx
   exact ⟨o',h2⟩
  ·have:=chain_lt hb (hchain _ _ ((tb x y hx).1 hy)); omega
  ·have h2:=hchain _ _ ((tb x y hx).1 hy)
   have hyx:=chain_lt hb h2
   have hyn:y < n:=by omega
   have h3:=hchain _ _ ((tb y z hyn).1 hz)
   exact (tb x z hx).2 (hbit _ _ (by simp; omega) (chain_trans h2 h3))
 have hids:=hat.ids
 obtain ⟨hid1,hid2,hid3⟩:=hids
 have hH0:H 0=h:=b2
 have hbase0:(H 0).base≤(H 0).size:=by
  obtain ⟨_,_,_,k2,_⟩:=hat
  rw [hH0]; exact k2.bs
 have hsz0:(H 0).size≤(H n).size:=T.mono hev0 (eo n) (ai _)
 have h0:∀ (i:Nat) o,(H 0).objs[i]? = some o→∀ j ∈ o.ids,j < (H 0).size:=by rw [hH0]; exact hid2
 have hμ0:μ0.length≤(H 0).size:=by rw [hH0]; exact hid3
 refine any_order has hb hpn hw1 hap S r b1 (fun x o' hx ho=>?_) (Inv E lo nt μ0 w0 ds n (fun x=>ms.getD x 0) H r D) (fun L sD a w x o o' hx h2 h3 h4 hL hbel habv hag hI next hn=>?_) (fun listed' sD a' w' hex' hsD hI=>?_) listed a w hex ?_
 ·obtain ⟨t1,t2,t3,_⟩:=T.one x o' hx ho
  refine ⟨t2,fun cs e=>?_,t3⟩
  obtain ⟨_,_,_,_,hs | hs⟩:=T.spec hev0 hx ho
  ·obtain ⟨s2,g,he,hy,_⟩:=hs.run
   obtain ⟨x0,c1,_,c3⟩:=gh (S2:=S x) (gj (hsoft x o' hx ho)) (Agree.of (fun _ _=>rfl) (fun _ _=>Iff.rfl)) he
   rw [hy,c1] at e
   cases hd:o'.dst with
   | none=>rw [hd] at e; cases e
   | some d=>rw [hd] at e; simp [dstSlot,setSlot,sget] at e; exact c3 cs e
  ·obtain ⟨s2,g,he,hy,_⟩:=hs.run
   obtain ⟨x0,c1,_,c3⟩:=gh (S2:=S x) (gj (hsoft x o' hx ho)) (Agree.of (fun _ _=>rfl) (fun _ _=>Iff.rfl)) he
   rw [hy,c1] at e
   cases hd:o'.dst with
   | none=>rw [hd] at e; cases e
   | some d=>rw [hd] at e; simp [dstSlot,setSlot,sget] at e; exact c3 cs e
 ·have hU:Up n (fun x=>ms.getD x 0) L x:=⟨hx,hL,fun y hy hbt=>hbel y hy ((tb x y hx).1 hbt),fun y hy hl=>by
   cases hq:(ms.getD y 0).testBit x with
   | false=>rfl
   | true =>
    have:=(tb y x hy).1 hq
    rw [habv y hy hl] at this; cases this⟩
  have hrv:∀ cs,r x ≠ .var cs:=by
   intro cs e
   obtain ⟨_,_,_,_,hs | hs⟩:=T.spec hev0 hx h3
   ·obtain ⟨s2,g,he,hy,_⟩:=hs.run
    obtain ⟨x0,c1,_,c3⟩:=gh (S2:=S x) (gj (hsoft x o' hx h3)) (Agree.of (fun _ _=>rfl) (fun _ _=>Iff.rfl)) he
    rw [hy,c1] at e
    cases hd:o'.dst with
    | none=>rw [hd] at e; cases e
    | some d=>rw [hd] at e; simp [dstSlot,setSlot,sget] at e; exact c3 cs e
   ·obtain ⟨s2,g,he,hy,_⟩:=hs.run
    obtain ⟨x0,c1,_,c3⟩:=gh (S2:=S x) (gj (hsoft x o' hx h3)) (Agree.of (fun _ _=>rfl) (fun _ _=>Iff.rfl)) he
    rw [hy,c1] at e
    cases hd:o'.dst with
    | none=>rw [hd] at e; cases e
    | some d=>rw [hd] at e; simp [dstSlot,setSlot,sget] at e; exact c3 cs e
  cases hcl:o'.op.isCall with
  | true=>exact call_up T hev0 hc hg h0 hμ0 hbase0 hU h3 h4 hcl hrv hag hI next hn
  | false=>exact soft_up T hev0 hg h0 hμ0 hbase0 hU h3 h4 hcl hrv hag hI next hn
 ·refine hk listed' a' w' hex' ?_
  have hmem:memL D H n (fun x=>decide (x < n))=(H n).objs:=by
   apply gu
   intro j
   rcases a8 j (H n).size with hj | hj
   ·have hj':j < (H n).objs.length:=hj
    rw [ft hj,mem_congr (L':=fun _=>true) n fun y hy _=>decide_eq_true hy,mem_text (n:=n) (fun _=>rfl) (fun y hy=>(T.evol hev0 hy).size) (fun y i hy hi hw=>T.unwritten hev0 hy hi hw) n (ai _),aj hj']
    rfl
   ·rw [bp (by rw [il]; exact hj),bp hj]
  have hHn:(⟨memL D H n (fun x=>decide (x < n)),(H 0).base,(H n).wmin⟩:Heap)=h1:=by
   rw [hmem,← T.base hev0 (ai n),b4]
  have:=hI.at'
  rw [hHn] at this
  obtain ⟨μ,ν,k1,k2,k3,k4⟩:=this
  exact ⟨μ,ν,k1,k2,k3.congr fun t=>by rw [hsD t,b3],k4⟩
 ·have hnone:memL D H n (fun _=>false)=h.objs++List.replicate ((H n).size - h.size) .dead:=by
   apply gu
   intro j
   have hm:∀ k,mem D (sz H) H (fun _=>false) k j=((H 0).objs[j]?).getD .dead:=by
    intro k
    induction k with
    | zero=>rfl
    | succ k ih=>simp only [mem]; rw [if_neg (by simp),ih]
   rcases a8 j (H n).size with hj | hj
   ·rw [ft hj,hm n,hH0]
    rcases a8 j h.size with hj2 | hj2
    ·have hj2':j < h.objs.length:=hj2
     rw [ag hj2',aj hj2']; rfl
    ·have hj2':h.objs.length≤j:=hj2
     rw [au hj2',bp hj2',d7,if_pos]
     ·rfl
     ·show j - h.size < (H n).size - h.size
      omega
   ·rw [bp (by rw [il]; exact hj),bp]
    rw [hH0] at hsz0
    have:h.objs.length=h.size:=rfl
    simp; omega
  refine ⟨?_,fun t y hy i hi=>.inl (by rw [hH0]; exact hid1 t y hy i hi),fun t cs hy i hi=>by rw [hH0]; exact hid1 t (.var cs) hy i hi,(fun _ _ _ h _=>absurd h (by simp)),(fun _ _ h=>absurd h (by simp))⟩
  rw [hnone]
  have h2:=(hat.reserve ((H n).size - h.size)).lower (wm':=(H n).wmin) (by rw [← hH0]; exact T.wmin hev0 (eo n) (ai _))
  rw [hH0]
  exact h2
end
end Go.Abs

namespace Go.Abs
section
variable {E:Env} {lo nt:Nat} {μ0:MM} {w0:World} {ds:List Deferred} {call:CallSem} {ro:Option Nat} {V:List Nat}
theorem quietV_text {h0:Heap}:∀ (seg:List AOper) (s s1:Slots) (h1:Heap),evQuietV call V seg s h0=some (s1,h1) →
  h1=h0∧∃ (S:Nat→Slots),S 0=s∧S seg.length=s1∧∀ (x:Nat) (o:AOper),seg[x]? = some o →
   (∃ h',evOper call o (S x) { h0 with wmin:=h0.size }=some (S (x+1),h')∧h'.size=h0.size∧h'.wmin=h0.size)∧quietOk V o (S x)=true
 | [],s,s1,h1,e=>by
  simp only [evQuietV] at e; cases e
  exact ⟨rfl,fun _=>s,rfl,rfl,fun x o hx=>by simp at hx⟩
 | o :: seg,s,s1,h1,e=>by
  simp only [evQuietV] at e
  split at e
  case h_2=>cases e
  rename_i s2 h2 he
  split at e
  case isFalse=>cases e
  rename_i hh
  obtain ⟨a1,a2,a3⟩:=hh
  obtain ⟨b1,S,b2,b3,b4⟩:=quietV_text seg s2 s1 h1 e
  refine ⟨b1,fun x=>match x with | 0=>s | x+1=>S x,rfl,by simpa using b3,fun x o1 hx=>?_⟩
  cases x with
  | zero =>
   simp at hx; subst hx
   exact ⟨⟨h2,by simp only [b2]; exact he,a1,a2⟩,a3⟩
  | succ x =>
   simp at hx
   exact b4 x o1 hx
def NoLoc (V:List Nat) (S:Slots):Prop:=∀ t u o,sget S t=some (.loc u o)→V.contains u=false
theorem noLocs_sound:∀ (s:Slots),noLocs V s=true→NoLoc V s
 | [],_=>fun t u o e=>by cases e
 | (d,x) :: r,h=>by
  intro t u o e
  simp only [sget] at e
  split at e
  ·cases e
   simp only [noLocs,az,dv] at h
   exact h.1
  ·refine noLocs_sound r ?_ t u o e
   cases x <;> simp only [noLocs] at h <;> first | exact h | (simp only [az] at h; exact h.2)
theorem sets_calm {o:AOper} (h:calm o.op=true):o.sets V=o.dst:=by
 unfold AOper.sets
 split
 ·rename_i hop; rw [hop] at h; cases h
 ·rfl
theorem quietOk_calm {o:AOper} {S:Slots} (h:calm o.op=true):quietOk V o S=((o.dst.all fun d=>!isVar S d && !V.contains d) && (o.reads.all fun u=>!looksAt V S u)):=by
 unfold quietOk
 split
 ·rename_i hop; rw [hop] at h; cases h
 ·rename_i hop; rw [hop] at h; cases h
 ·rfl
theorem adr_inV {S:Slots} {x:Opd} (hl:∀ u ∈ x.reads,looksAt V S u=false) {t o:Nat} (h:x.adr S=some (.loc t o)):V.contains t=false:=by
 cases x with
 | const v=>cases h
 | tmp u =>
  have h1:=hl u (by simp [Opd.reads])
  unfold looksAt at h1
  simp only [Bool.or_eq_false_iff] at h1
  simp only [Opd.adr] at h
  split at h
  ·cases h
  ·cases h; exact h1.1
  ·rename_i t' o' hs; cases h; rw [hs] at h1; exact h1.2
  ·cases h
theorem ok1_loc {S:Slots} {h:Heap} {v:Option AVal} {x:Slot} {s':Slots} {h':Heap} (e:ok1 S h v=some (x,s',h')) {t o:Nat} (hx:x = .loc t o):False:=by
 obtain ⟨u,rfl,rfl,rfl,rfl⟩:=du e
 cases hx
theorem op_loc {S:Slots} {h:Heap} {o:AOp} {d:Nat} {x:Slot} {s':Slots} {h':Heap} (hc:calm o=true) (hl:∀ u ∈ o.reads,looksAt V S u=false) (e:evOp call d o S h=some (x,s',h')) :
  ∀ t off,x = .loc t off→V.contains t=false:=by
 intro t off hx
 have hval:∀ v:AVal,x ≠ .val v:=fun v e=>by rw [hx] at e; cases e
 cases o with
 | faddr a n =>
  simp only [evOp] at e
  split at e
  ·exact (ok1_loc e hx).elim
  ·rename_i had
   split at e
   ·cases e; cases hx; exact adr_inV hl had
   ·cases e
  ·cases e
 | aaddr n k a i =>
  simp only [evOp] at e
  split at e
  ·exact (ok1_loc e hx).elim
  ·rename_i had _
   split at e
   ·rw [ae] at e
    obtain ⟨j,_,e⟩:=e
    cases e; cases hx
    exact adr_inV (fun u hu=>hl u (by simp only [AOp.reads,br]; exact .inl hu)) had
   ·cases e
  ·cases e
 | nilcheck a =>
  simp only [evOp] at e
  split at e
  ·exact (ok1_loc e hx).elim
  ·split at e
   ·rename_i had
    split at e
    ·cases e; cases hx; exact adr_inV hl had
    ·cases e
   ·cases e
 | lalloc z=>cases hc
 | lbox a=>cases hc
 | store n a b=>cases hc
 | copy e1 d1 s1=>cases hc
 | conv k a =>
  simp only [evOp] at e
  split at e
  ·unfold evConv at e
   cases k <;> simp only at e
   ·split at e
    ·exact (ok1_loc e hx).elim
    ·cases e
   ·split at e
    ·exact (ok1_loc e hx).elim
    ·cases e
   ·split at e
    ·split at e
     ·cases e; cases hx
     ·cases e
    ·cases e
   ·split at e
    ·split at e
     ·exact (ok1_loc e hx).elim
     ·cases e
    ·cases e
   ·split at e
    ·split at e
     ·split at e
      ·cases e; cases hx
      ·cases e
     ·cases e
    ·cases e
  ·cases e
 | nextStr a=>cases e
 | _ =>
  simp only [evOp] at e
  first
   | exact (ok1_loc e hx).elim
   | (cases e; cases hx)
   | (split at e <;> first
     | exact (ok1_loc e hx).elim
     | (cases e; done)
     | (cases e; cases hx)
     | (rw [ae] at e; obtain ⟨_,_,e⟩:=e; cases e; cases hx)
     | (split at e <;> first
       | exact (ok1_loc e hx).elim
       | (cases e; done)
       | (cases e; cases hx)
       | (rw [ae] at e; obtain ⟨_,_,e⟩:=e; cases e; cases hx)))
theorem oper_loc {S:Slots} {h:Heap} {o:AOper} {x:Slot} {h':Heap} (hc:calm o.op=true) (hl:∀ u ∈ o.reads,looksAt V S u=false) (e:evOper call o S h=some (setSlot o.dst x S,h')) (hn:NoLoc V S) :
  NoLoc V (setSlot o.dst x S):=by
 have run:∀ s' h',evRun call o S h=some (s',h')→NoLoc V s':=by
  intro s' h' e
  unfold evRun at e
  split at e
  case h_2=>cases e
  rename_i x1 s1 h1 he
  cases e
  intro t u off ht
  obtain ⟨e1,_,_⟩:=op_congr (V:=fun _=>False) (S2:=S) hc (Agree.of (fun _ _=>rfl) (fun _ _=>Iff.rfl)) _ _ _ he
  subst e1
  rw [dh] at ht
  split at ht
  ·cases ht
   exact op_loc hc (fun u hu=>hl u (by unfold AOper.reads; exact c8 _ hu)) he _ _ rfl
  ·exact hn _ _ _ ht
 have und:NoLoc V (setSlot o.dst .undef S):=by
  intro t u off ht
  rw [dh] at ht
  split at ht
  ·cases ht
  ·exact hn _ _ _ ht
 unfold evOper at e
 split at e
 ·exact run _ _ e
 ·split at e
  ·split at e
   ·exact run _ _ e
   ·have:=congrArg Prod.fst (bz e); exact (show setSlot o.dst .undef S=setSlot o.dst x S from this) ▸ und
  ·have:=congrArg Prod.fst (bz e); exact (show setSlot o.dst .undef S=setSlot o.dst x S from this) ▸ und
  ·cases e
theorem operV {o:AOper} {S sD S':Slots} {h h':Heap} (hv:quietV V o=true) (hq:quietOk V o S=true) (e:evOper call o S h=some (S',h')) (hn:NoLoc V S) (hnD:NoLoc V sD)
  (hat:∀ t ∈ o.reads,sget S t=sget sD t) (hvar:∀ t cs,V.contains t=false→(sget S t=some (.var cs) ↔ sget sD t=some (.var cs))) :
  ∃ sD',evOper call o sD h=some (sD',h')∧(∀ u,sget sD' u=if o.sets V=some u then sget S' u else sget sD u)∧(∀ u,o.sets V≠some u→sget S' u=sget S u)∧NoLoc V S' ∧
   (∀ d cs,o.sets V=some d→V.contains d=false→sget S' d≠some (.var cs)∧sget S d≠some (.var cs)):=by
 have unl:∀ {A:Slots} (d:Nat),V.contains d=true→NoLoc V A→∀ t,sget (unloc d A) t=sget A t:=by
  intro A d hd hA t
  rw [sget_unloc]
  split
  ·rename_i t' off ht
   have:=hA _ _ _ ht
   rw [if_neg (fun e=>by subst e; rw [hd] at this; cases this),ht]
  ·rfl
 by_cases hc:calm o.op=true
 ·rw [quietOk_calm hc] at hq
  simp only [az,al,dv] at hq
  obtain ⟨hq1,hq2⟩:=hq
  have hag:AgreeV (fun t=>V.contains t=true) S sD o.reads:=⟨hat,fun t cs ht=>hvar t cs (by simpa using ht),fun t ht=>by
   have:=hq2 t ht
   unfold looksAt at this
   simp only [Bool.or_eq_false_iff] at this
   refine ⟨(fun hq=>by rw [this.1] at hq; cases hq),fun t' off hs hq=>?_⟩
   rw [hs] at this
   have h2:V.contains t'=false:=this.2
   rw [h2] at hq; cases hq⟩
  obtain ⟨x,c1,c2,c3⟩:=gh hc hag e
  rw [sets_calm hc]
  subst c1
  refine ⟨_,c2,fun u=>?_,fun u hu=>by rw [dh,if_neg hu],oper_loc hc hq2 e hn,fun d cs hd hdV=>?_⟩
  ·rw [dh]
   split
   ·rename_i hu; rw [dh,if_pos hu]
   ·rfl
  ·rw [hd] at hq1
   simp only [Option.all_some,az,dv] at hq1
   refine ⟨by rw [dh,if_pos hd]; intro e; exact c3 cs (bz e),fun e=>?_⟩
   have:=hq1.1
   unfold isVar at this
   rw [e] at this
   cases this
 ·unfold quietV at hv
  split at hv
  ·-- a variable is made
   rename_i z hop
   unfold quietOk at hq
   rw [hop] at hq
   simp only [az,Option.isNone_iff_eq_none] at hq
   obtain ⟨hg,hd⟩:=hq
   cases hdd:o.dst with
   | none=>rw [hdd] at hd; cases hd
   | some d =>
    rw [hdd] at hd
    simp only at hd
    have hset:o.sets V=some d:=by unfold AOper.sets; rw [hop]; exact hdd
    unfold evOper at e
    rw [hg] at e
    simp only [evRun,hop,evOp,hdd,df,setSlot] at e
    cases e
    refine ⟨(d,.var z) :: unloc d sD,by unfold evOper; rw [hg]; simp only [evRun,hop,evOp,hdd,df,setSlot],fun u=>?_,fun u hu=>?_,?_,fun d' cs hd' hV=>?_⟩
    ·rw [hset]
     simp only [sget,dk]
     split
     ·rfl
     ·exact unl d hd hnD u
    ·rw [hset] at hu
     simp only [sget]
     rw [if_neg (fun e=>hu (by rw [e]))]
     exact unl d hd hn u
    ·intro t u off ht
     simp only [sget] at ht
     split at ht
     ·cases ht
     ·rw [unl d hd hn t] at ht; exact hn _ _ _ ht
    ·rw [hset] at hd'; cases hd'; rw [hd] at hV; cases hV
  ·-- one is set
   rename_i n t x hop
   unfold quietOk at hq
   rw [hop] at hq
   simp only [az,Option.isNone_iff_eq_none,al,dv] at hq
   obtain ⟨⟨⟨⟨hg,hd⟩,_⟩,hvr⟩,hlk⟩:=hq
   have hset:o.sets V=some t:=by unfold AOper.sets; rw [hop]; simp only; rw [if_pos hv]
   have hreads:o.reads=t :: x.reads:=by unfold AOper.reads; rw [hop,hg]; simp [AOp.reads,Opd.reads]
   have ht:sget S t=sget sD t:=hat t (by rw [hreads]; exact a7 ..)
   have hx:x.ev sD=x.ev S:=by
    cases x with
    | const v=>rfl
    | tmp u=>simp only [Opd.ev,← hat u (by rw [hreads]; simp [Opd.reads])]
   unfold isVar at hvr
   split at hvr
   case h_2=>cases hvr
   rename_i cs hcs
   have hcsD:sget sD t=some (.var cs):=by rw [← ht]; exact hcs
   have hadr:(Opd.tmp t).adr S=some (.loc t 0):=by simp only [Opd.adr,hcs]
   have hadrD:(Opd.tmp t).adr sD=some (.loc t 0):=by simp only [Opd.adr,hcsD]
   unfold evOper at e
   rw [hg] at e
   simp only [evRun,hop,evOp,hadr] at e
   cases hxs:(x.ev S).bind AVal.cells? with
   | none=>rw [hxs] at e; cases e
   | some xs =>
    rw [hxs] at e
    simp only [storeAt,hcs] at e
    by_cases hlen:xs.length=n
    ·rw [if_pos hlen] at e
     by_cases hle:0+xs.length≤cs.length
     ·rw [if_pos hle] at e
      simp only [bq,hd,setSlot] at e
      cases e
      refine ⟨(t,.var (splice cs 0 xs)) :: sD,?_,fun u=>?_,fun u hu=>?_,?_,fun d' cs' hd' hV=>?_⟩
      ·unfold evOper
       rw [hg]
       simp only [evRun,hop,evOp,hadrD,hx,hxs,storeAt,hcsD]
       rw [if_pos hlen,if_pos hle]
       simp only [bq,hd,setSlot]
      ·rw [hset]
       simp only [sget,dk]
       split <;> rfl
      ·rw [hset] at hu
       simp only [sget]
       rw [if_neg (fun e=>hu (by rw [e]))]
      ·intro t1 u off ht1
       simp only [sget] at ht1
       split at ht1
       ·cases ht1
       ·exact hn _ _ _ ht1
      ·rw [hset] at hd'; cases hd'; rw [hv] at hV; cases hV
     ·rw [if_neg hle] at e; cases e
    ·rw [if_neg hlen] at e; cases e
  ·exact absurd hv hc
end
section
variable {E:Env} {lo nt:Nat} {μ0:MM} {w0:World} {ds:List Deferred} {s:Slots} {h:Heap} {a:Act} {w:World} {call:CallSem} {ops:Array Oper} {locs:List Nat} {as:List AOper} {Q:Exit→Act→World→Prop} {ro:Option Nat} {V:List Nat}
theorem quietV_any (hc:CallOK E call) (hev0:CallEvol call) (hg:GidOK E) (has:cOpers E nt ops locs 0 ops.toList=some as) (hb:edgesBack ops=true)
  {p n:Nat} {h1:Heap} {s1:Slots} (hpn:p+n≤as.length) (hw1:waits (befs ops.toList []) (p+n)=true)
  (hap:∀ x y oi oj,x < n→y < n→as[p+x]? = some oi→as[p+y]? = some oj→apartV V (befs ops.toList []) (p+x) (p+y) oi oj=true)
  (hqv:∀ x o,x < n→as[p+x]? = some o→quietV V o=true) (hnl:NoLoc V s)
  (hev:evQuietV call V ((as.drop p).take n) s h=some (s1,h1))
  (hk:∀ listed' a' w',Exact ops listed' (p+n)→At E lo nt μ0 w0 ds s1 h1 a' w'→wpAnyIn (F0 ro) 0 E.P .any ops Q (ops.size - (p+n)) listed' a' w') :
  ∀ listed a w,Exact ops listed p→At E lo nt μ0 w0 ds s h a w→wpAnyIn (F0 ro) 0 E.P .any ops Q (ops.size - p) listed a w:=by
 obtain ⟨q1,q2⟩:=iu _ _ _ has
 simp only [ep] at q1
 have hchain:=j9 (ops:=ops) ops.toList [] (by simp) (fun k i hk=>by simp at hk)
 have hblen:=jb ops.toList []
 simp only [dw,c6,ep] at hblen
 have hseg:∀ x,x < n→((as.drop p).take n)[x]? = as[p+x]?:=fun x hx=>by rw [dy hx,cq]
 have hslen:((as.drop p).take n).length=n:=by simp; omega
 obtain ⟨e1,S,b2,b3,b4⟩:=quietV_text _ _ _ _ hev
 subst e1
 rw [hslen] at b3
 have opat:∀ x,x < n→∃ o o',ops[p+x]? = some o∧as[p+x]? = some o'∧cOper E nt ops (locs.contains (p+x)) o=some o':=by
  intro x hx
  have hlt:p+x < ops.size:=by omega
  obtain ⟨o',h2,h3⟩:=q2 (p+x) ops[p+x] (by simp [hlt])
  exact ⟨ops[p+x],o',by simp [hlt],h2,by simpa using h3⟩
 have text:∀ x o',x < n→as[p+x]? = some o'→(∃ h',evOper call o' (S x) { h1 with wmin:=h1.size }=some (S (x+1),h')∧h'.size=h1.size∧h'.wmin=h1.size)∧quietOk V o' (S x)=true :=
  fun x o' hx ho=>b4 x o' (by rw [hseg x hx]; exact ho)
 have ordered:∀ x y oi oj d,x < n→y < n→x≠y→as[p+x]? = some oi→as[p+y]? = some oj→oj.sets V=some d→(oi.sets V=some d∨d ∈ oi.reads) →
   (y < x∧((befs ops.toList []).getD (p+x) 0).testBit (p+y)=true)∨(x < y∧((befs ops.toList []).getD (p+y) 0).testBit (p+x)=true):=by
  intro x y oi oj d hx hy hne hi hj hd hor
  have:=hap x y oi oj hx hy hi hj
  unfold apartV at this
  rw [hd] at this
  simp only [az,cd,beq_iff_eq,bne_iff_ne,decide_eq_true_eq,dv,List.contains_eq_mem,decide_eq_false_iff_not] at this
  rcases this with ((h2 | h2) | h2) | h2
  ·omega
  ·rcases hor with h3 | h3
   ·exact absurd h3 h2.1
   ·exact absurd h3 h2.2
  ·exact .inl ⟨by omega,h2.2⟩
  ·exact .inr ⟨by omega,h2.2⟩
 have self:∀ x o',x < n→as[p+x]? = some o'→NoLoc V (S x)→(∀ u,o'.sets V≠some u→sget (S (x+1)) u=sget (S x) u)∧NoLoc V (S (x+1)) ∧
   (∀ d cs,o'.sets V=some d→V.contains d=false→sget (S (x+1)) d≠some (.var cs)∧sget (S x) d≠some (.var cs)):=by
  intro x o' hx ho hn
  obtain ⟨⟨h',t1,_,_⟩,t2⟩:=text x o' hx ho
  obtain ⟨_,_,_,c3,c4,c5⟩:=operV (hqv x o' hx ho) t2 t1 hn hn (fun _ _=>rfl) (fun _ _ _=>Iff.rfl)
  exact ⟨c3,c4,c5⟩
 have text_no:∀ x,x≤n→NoLoc V (S x):=by
  intro x
  induction x with
  | zero=>intro _; rw [b2]; exact hnl
  | succ x ih =>
   intro hx
   obtain ⟨_,o',_,ho',_⟩:=opat x (by omega)
   exact (self x o' (by omega) ho' (ih (by omega))).2.1
 have text_step:∀ x o' u,x < n→as[p+x]? = some o'→o'.sets V≠some u→sget (S (x+1)) u=sget (S x) u:=fun x o' u hx ho=>(self x o' hx ho (text_no x (by omega))).1 u
 have text_last:∀ x t y,y < x→x≤n→(∀ z o,y < z→z < x→as[p+z]? = some o→o.sets V≠some t)→sget (S x) t=sget (S (y+1)) t:=by
  intro x
  induction x with
  | zero=>intro t y hy; omega
  | succ x ih =>
   intro t y hy hx hno
   by_cases e:y=x
   ·subst e; rfl
   ·obtain ⟨_,o',_,ho',_⟩:=opat x (by omega)
    rw [text_step x o' t (by omega) ho' (hno x o' (by omega) (by omega) ho')]
    exact ih t y (by omega) (by omega) fun z o h2 h3=>hno z o h2 (by omega)
 have text_miss:∀ x t,x≤n→(∀ y o,y < x→as[p+y]? = some o→o.sets V≠some t)→sget (S x) t=sget s t:=by
  intro x
  induction x with
  | zero=>intro t _ _; rw [b2]
  | succ x ih =>
   intro t hx hno
   obtain ⟨_,o',_,ho',_⟩:=opat x (by omega)
   rw [text_step x o' t (by omega) ho' (hno x o' (by omega) ho')]
   exact ih t (by omega) fun y o hy=>hno y o (by omega)
 have text_var:∀ x t cs,x≤n→V.contains t=false→(sget (S x) t=some (.var cs) ↔ sget s t=some (.var cs)):=by
  intro x
  induction x with
  | zero=>intro t cs _ _; rw [b2]
  | succ x ih =>
   intro t cs hx ht
   obtain ⟨_,o',_,ho',_⟩:=opat x (by omega)
   by_cases e:o'.sets V=some t
   ·obtain ⟨n1,n2⟩:=(self x o' (by omega) ho' (text_no x (by omega))).2.2 t cs e ht
    rw [← ih t cs (by omega) ht]
    exact ⟨fun e=>absurd e n1,fun e=>absurd e n2⟩
   ·rw [text_step x o' t (by omega) ho' e]
    exact ih t cs (by omega) ht
 have main:∀ (k:Nat) (listed:Array Bool) (sD:Slots) (a:Act) (w:World),listed.size=ops.size→Down ops listed→(∀ i,i < p→listed[i]? = some true)→(∀ i,p+n≤i→i < ops.size→listed[i]? = some false) →
   ((List.range n).filter fun x=>listed[p+x]? == some false).length=k →
   (∀ t,(∃ y o,y < n∧as[p+y]? = some o∧o.sets V=some t∧listed[p+y]? = some true∧(∀ z oz,z < n→as[p+z]? = some oz→oz.sets V=some t→listed[p+z]? = some true→z≤y)∧sget sD t=sget (S (y+1)) t) ∨
    ((∀ y o,y < n→as[p+y]? = some o→o.sets V=some t→listed[p+y]?≠some true)∧sget sD t=sget s t)) →
   At E lo nt μ0 w0 ds sD h1 a w→wpAnyIn (F0 ro) 0 E.P .any ops Q (ops.size - (p+n)+k) listed a w:=by
  intro k
  induction k with
  | zero =>
   intro listed sD a w hsz hdn hlow hhigh hcount hinv hat
   have hall:∀ x,x < n→listed[p+x]? = some true:=by
    intro x hx
    have hlt:p+x < listed.size:=by omega
    have hmem:x ∉ (List.range n).filter fun x=>listed[p+x]? == some false:=by
     rw [bo hcount]; simp
    rw [eu] at hmem
    have h2:¬ (listed[p+x]? = some false):=fun h2=>hmem ⟨ce.2 hx,by simp [h2]⟩
    rw [jc hlt] at h2 ⊢
    cases hv:listed[p+x] with
    | true=>rfl
    | false=>rw [hv] at h2; exact absurd rfl h2
   have hex:Exact ops listed (p+n):=by
    refine ⟨hsz,fun i hi=>?_⟩
    rcases a8 i p with h2 | h2
    ·rw [hlow i h2]; simp; omega
    ·rcases a8 i (p+n) with h3 | h3
     ·have:=hall (i - p) (by omega)
      rw [show p+(i - p)=i by omega] at this
      rw [this]; simp [h3]
     ·rw [hhigh i h3 hi]; simp; omega
   refine hk listed a w hex ?_
   obtain ⟨μ,ν,k1,k2,k3,k4⟩:=hat
   refine ⟨μ,ν,k1,k2,k3.congr fun t=>?_,k4⟩
   rw [← b3]
   rcases hinv t with ⟨y,o,i1,i2,i3,i4,i5,i6⟩ | ⟨i1,i2⟩
   ·rw [i6]
    refine text_last n t y i1 (ai _) fun z oz hz hzn hoz hs=>?_
    have:=i5 z oz hzn hoz hs (hall z hzn)
    omega
   ·rw [i2]
    exact text_miss n t (ai _) fun y o hy ho hs=>i1 y o hy ho hs (hall y hy)
  | succ k ih =>
   intro listed sD a w hsz hdn hlow hhigh hcount hinv hat
   have hsome:∃ x,x < n∧listed[p+x]? = some false:=by
    have hne:(List.range n).filter (fun x=>listed[p+x]? == some false)≠[]:=fun e=>by rw [e] at hcount; simp at hcount
    obtain ⟨x,hx⟩:=List.exists_mem_of_ne_nil _ hne
    rw [eu,ce] at hx
    exact ⟨x,hx.1,by simpa using hx.2⟩
   obtain ⟨xu,hxu,hxf⟩:=hsome
   refine ⟨fun hr=>?_,fun i hi=>?_⟩
   ·have:=all_listed hb hsz hr (p+xu) (by omega)
    rw [hxf] at this; cases this
   ·obtain ⟨oi,k1,k2,k3⟩:=ready_mem hsz hi
    have his:i < ops.size:=ah (l:=ops.toList) (by simpa using k1)
    have hip:p≤i:=by
     rcases a8 i p with h2 | h2
     ·rw [hlow i h2] at k2; cases k2
     ·exact h2
    have hin:i < p+n:=by
     rcases a8 i (p+n) with h2 | h2
     ·exact h2
     ·exfalso
      have hbit:=waits_at hw1 (j:=i) (i:=p+xu) (by rw [hblen]; exact his) h2 (by omega)
      have hl:=ga hdn (hchain _ _ hbit) fun o e ho he hbb=>by rw [k1] at ho; cases ho; exact k3 e he hbb
      rw [hxf] at hl; cases hl
    obtain ⟨x,rfl⟩:∃ x,i=p+x:=⟨i - p,by omega⟩
    have hxn:x < n:=by omega
    obtain ⟨o,o',h2,h3,h4⟩:=opat x hxn
    rw [h2] at k1; cases k1
    obtain ⟨⟨h',t1,t1a,t1b⟩,t2⟩:=text x o' hxn h3
    have waitsl:∀ j,(((befs ops.toList []).getD (p+x) 0).testBit j=true)→listed[j]? = some true:=fun j hbit =>
     ga hdn (hchain _ _ hbit) fun o2 e ho he hbb=>by rw [h2] at ho; cases ho; exact k3 e he hbb
    have waitsd:∀ j i,listed[j]? = some true→(((befs ops.toList []).getD j 0).testBit i=true)→listed[i]? = some true:=fun j i hl hbit =>
     ga hdn (hchain _ _ hbit) fun o2 e ho he hbb=>hdn _ _ _ hl ho he hbb
    have low:∀ t y oy,t ∈ o'.reads→y < n→as[p+y]? = some oy→oy.sets V=some t→y < x→listed[p+y]? = some true:=by
     intro t y oy ht hy hoy hs hyx
     rcases ordered x y o' oy t hxn hy (by omega) h3 hoy hs (.inr ht) with ⟨_,h6⟩ | ⟨h5,_⟩
     ·exact waitsl _ h6
     ·omega
    have high:∀ t y oy,(o'.sets V=some t∨t ∈ o'.reads)→y < n→as[p+y]? = some oy→oy.sets V=some t→listed[p+y]? = some true→y < x:=by
     intro t y oy ht hy hoy hs hl
     rcases Nat.lt_trichotomy y x with h5 | h5 | h5
     ·exact h5
     ·subst h5; rw [k2] at hl; cases hl
     ·exfalso
      rcases ordered x y o' oy t hxn hy (by omega) h3 hoy hs ht with ⟨h6,_⟩ | ⟨_,h6⟩
      ·omega
      ·have:=waitsd _ _ hl h6
       rw [k2] at this; cases this
    have hag:∀ t ∈ o'.reads,sget (S x) t=sget sD t:=by
     intro t ht
     rcases hinv t with ⟨y,oy,i1,i2,i3,i4,i5,i6⟩ | ⟨i1,i2⟩
     ·rw [i6]
      refine text_last x t y (high t y oy (.inr ht) i1 i2 i3 i4) (by omega) fun z oz hz hzx hoz hs=>?_
      have:=i5 z oz (by omega) hoz hs (low t z oz ht (by omega) hoz hs hzx)
      omega
     ·rw [i2]
      exact text_miss x t (by omega) fun y oy hy hoy hs=>i1 y oy (by omega) hoy hs (low t y oy ht (by omega) hoy hs hy)
    have hvar:∀ t cs,V.contains t=false→(sget (S x) t=some (.var cs) ↔ sget sD t=some (.var cs)):=by
     intro t cs ht
     rw [text_var x t cs (by omega) ht]
     rcases hinv t with ⟨y,oy,i1,i2,i3,i4,i5,i6⟩ | ⟨i1,i2⟩
     ·rw [i6]; exact (text_var (y+1) t cs (by omega) ht).symm
     ·rw [i2]
    have hnD:NoLoc V sD:=by
     intro t u off ht
     rcases hinv t with ⟨y,oy,i1,i2,i3,i4,i5,i6⟩ | ⟨i1,i2⟩
     ·rw [i6] at ht; exact text_no (y+1) (by omega) _ _ _ ht
     ·rw [i2] at ht; exact hnl _ _ _ ht
    obtain ⟨sD',c1,c2,_,_,_⟩:=operV (hqv x o' hxn h3) t2 t1 (text_no x (by omega)) hnD hag hvar
    refine wpOp_of h2 (quiet_step hc hev0 hg h4 c1 t1a t1b hat fun a' w' hat'=>?_)
    have hset:∀ j,j≠p+x→(listed.setIfInBounds (p+x) true)[j]? = listed[j]?:=fun j hj=>co (fun e=>hj e.symm)
    have hself:(listed.setIfInBounds (p+x) true)[p+x]? = some true:=by simp [hsz,his]
    refine ih (listed.setIfInBounds (p+x) true) sD' a' w' (by simp [hsz]) ?_ ?_ ?_ ?_ ?_ hat'
    ·intro j oj e hj hoj he hbb
     by_cases ej:j=p+x
     ·subst ej
      rw [h2] at hoj; cases hoj
      have:=k3 e he hbb
      by_cases ee:e.on=p+x
      ·rw [ee]; exact hself
      ·rw [hset _ ee]; exact this
     ·rw [hset _ ej] at hj
      have:=hdn j oj e hj hoj he hbb
      by_cases ee:e.on=p+x
      ·rw [ee]; exact hself
      ·rw [hset _ ee]; exact this
    ·intro j hj; rw [hset j (by omega)]; exact hlow j hj
    ·intro j hj hj'; rw [hset j (by omega)]; exact hhigh j hj hj'
    ·-- one less is to come
     have hperm:((List.range n).filter fun y=>(listed.setIfInBounds (p+x) true)[p+y]? == some false)=((List.range n).filter fun y=>listed[p+y]? == some false).filter fun y=>y != x:=by
      rw [List.filter_filter]
      apply List.filter_congr
      intro y _
      by_cases ey:y=x
      ·subst ey; rw [hself]; simp
      ·rw [hset _ (by omega)]; simp [ey]
     rw [hperm]
     have hmem:x ∈ (List.range n).filter fun y=>listed[p+y]? == some false:=by
      rw [eu]; exact ⟨ce.2 hxn,by simp [k2]⟩
     have hnd:((List.range n).filter fun y=>listed[p+y]? == some false).Nodup:=List.nodup_range.sublist List.filter_sublist
     generalize (List.range n).filter (fun y=>listed[p+y]? == some false)=L at hcount hmem hnd
     have herase:L.filter (fun y=>y != x)=L.erase x:=(hnd.erase_eq_filter x).symm
     rw [herase,List.length_erase_of_mem hmem,hcount]
     rfl
    ·intro t
     rw [c2 t]
     by_cases ht:o'.sets V=some t
     ·rw [if_pos ht]
      refine .inl ⟨x,o',hxn,h3,ht,hself,fun z oz hz hoz hs hl=>?_,rfl⟩
      by_cases ez:z=x
      ·omega
      ·rw [hset _ (by omega)] at hl
       have:=high t z oz (.inl ht) hz hoz hs hl
       omega
     ·rw [if_neg ht]
      have ne:∀ z oz,as[p+z]? = some oz→oz.sets V=some t→z≠x:=by
       intro z oz hoz hs e
       subst e; rw [h3] at hoz; cases hoz; exact ht hs
      rcases hinv t with ⟨y,oy,i1,i2,i3,i4,i5,i6⟩ | ⟨i1,i2⟩
      ·refine .inl ⟨y,oy,i1,i2,i3,?_,fun z oz hz hoz hs hl=>?_,i6⟩
       ·rw [hset _ (by have:=ne y oy i2 i3; omega)]; exact i4
       ·rw [hset _ (by have:=ne z oz hoz hs; omega)] at hl
        exact i5 z oz hz hoz hs hl
      ·refine .inr ⟨fun y oy hy hoy hs=>?_,i2⟩
       rw [hset _ (by have:=ne y oy hoy hs; omega)]
       exact i1 y oy hy hoy hs
 intro listed a w hex hat
 have hcount:((List.range n).filter fun x=>listed[p+x]? == some false).length=n:=by
  have:(List.range n).filter (fun x=>listed[p+x]? == some false)=List.range n:=by
   rw [List.filter_eq_self]
   intro x hx
   rw [ce] at hx
   rw [hex.2 (p+x) (by omega)]
   simp
  rw [this,jo]
 have:=main n listed s a w hex.1 (hex.down hb) (fun i hi=>by rw [hex.2 i (by omega)]; simp [hi]) (fun i hi hi'=>by rw [hex.2 i hi']; simp; omega) hcount
  (fun t=>.inr ⟨fun y o hy ho hs hl=>by
   have h5:=hex.2 (p+y) (by omega)
   rw [hl] at h5
   have h6:=of_decide_eq_true (bz h5).symm
   omega,rfl⟩) hat
 rwa [show ops.size - (p+n)+n=ops.size - p by omega] at this
end
end Go.Abs

namespace Go.Abs
section
variable {E:Env} {lo nt:Nat} {μ0:MM} {w0:World} {ds:List Deferred} {s:Slots} {h:Heap} {a:Act} {w:World} {call:CallSem} {ops:Array Oper} {locs:List Nat} {as:List AOper} {Q:Exit→Act→World→Prop} {ro:Option Nat}
theorem segs_any (hc:CallOK E call) (hev0:CallEvol call) (hg:GidOK E) (has:cOpers E nt ops locs 0 ops.toList=some as) (hb:edgesBack ops=true) :
  ∀ (segs:List (Bool × Nat)) (p:Nat) (gs:List Seg) (s:Slots) (h:Heap) (s1:Slots) (h1:Heap) (listed:Array Bool) (a:Act) (w:World),segsOk as (befs ops.toList []) p segs=true→splitSegs (befs ops.toList []) p segs (as.drop p)=some gs →
  evSegs call gs s h=some (s1,h1)→Exact ops listed p→At E lo nt μ0 w0 ds s h a w→(∀ a' w',At E lo nt μ0 w0 ds s1 h1 a' w'→Q .normal a' w')→wpAnyIn (F0 ro) 0 E.P .any ops Q (ops.size - p) listed a w
 | [],p,gs,s,h,s1,h1,listed,a,w,hok,hsp,hev,hex,hat,hn=>by
  obtain ⟨q1,_⟩:=iu _ _ _ has
  simp only [ep] at q1
  simp only [segsOk,beq_iff_eq] at hok
  have hp:p=ops.size:=by omega
  subst hp
  rw [Nat.sub_self]
  unfold splitSegs at hsp
  split at hsp
  ·cases hsp
   simp only [evSegs] at hev; cases hev
   refine ⟨?_,hn _ _ hat⟩
   apply List.eq_nil_iff_forall_not_mem.2
   intro i hi
   obtain ⟨o,k1,k2,_⟩:=ready_mem hex.1 hi
   have his:i < ops.size:=ah (l:=ops.toList) (by simpa using k1)
   rw [hex.2 i his] at k2
   simp [his] at k2
  ·cases hsp
  ·contradiction
 | (true,n) :: r,p,gs,s,h,s1,h1,listed,a,w,hok,hsp,hev,hex,hat,hn=>by
  obtain ⟨q1,_⟩:=iu _ _ _ has
  simp only [ep] at q1
  have hblen:=jb ops.toList []
  simp only [dw,c6,ep] at hblen
  simp only [segsOk,az,decide_eq_true_eq] at hok
  obtain ⟨⟨⟨a1,a2⟩,a34⟩,a5⟩:=hok
  simp only [splitSegs] at hsp
  split at hsp
  case isFalse=>cases hsp
  rw [ae] at hsp
  obtain ⟨gs',hsp,rfl⟩:=hsp
  rw [g9] at hsp
  simp only [evSegs,if_true] at hev
  split at hev
  case h_2=>cases hev
  rename_i s2 h2 he
  have hgo:∀ listed' a' w',Exact ops listed' (p+n)→At E lo nt μ0 w0 ds s2 h2 a' w'→wpAnyIn (F0 ro) 0 E.P .any ops Q (ops.size - (p+n)) listed' a' w':=fun listed' a' w' hex' hat' =>
   segs_any hc hev0 hg has hb r (p+n) gs' s2 h2 s1 h1 listed' a' w' a5 hsp hev hex' hat' hn
  unfold quietSeg at a34
  split at a34
  case isFalse hnv =>
   simp only [az] at a34
   obtain ⟨⟨hsm,a3⟩,a4⟩:=a34
   rw [if_pos (by simpa using hsm)] at he
   unfold evQ at he
   rw [if_neg hnv] at he
   split at he
   case isFalse=>cases he
   rename_i hnl
   refine quietV_any hc hev0 hg has hb a2 (waits_of (by omega) r (p+n) a5) (fun x y oi oj hx hy hi hj=>?_) (fun x o hx ho=>?_) (noLocs_sound _ hnl) he hgo listed a w hex hat
   ·rw [al] at a3
    have:=a3 x (ce.2 hx)
    rw [al] at this
    have:=this y (ce.2 hy)
    rw [hi,hj] at this
    exact this
   ·rw [al] at a4
    have:=a4 x (ce.2 hx)
    rw [ho] at this
    exact this
  rename_i hnv
  simp only [az] at a34
  obtain ⟨a3,a4⟩:=a34
  have hap:∀ x y oi oj,x < n→y < n→as[p+x]? = some oi→as[p+y]? = some oj→apart (befs ops.toList []) (p+x) (p+y) oi oj=true:=fun x y oi oj hx hy hi hj=>by
   rw [al] at a3
   have:=a3 x (ce.2 hx)
   rw [al] at this
   have:=this y (ce.2 hy)
   rw [hi,hj] at this
   exact this
  have hcs:∀ x o,x < n→as[p+x]? = some o→calm o.op=true∧(softMasks (befs ops.toList []) p ((as.drop p).take n)=[]∨soft o.op=true):=fun x o hx ho=>by
   rw [al] at a4
   have:=a4 x (ce.2 hx)
   rw [ho] at this
   simpa using this
  unfold evQ at he
  rw [if_pos hnv] at he
  split at he
  ·exact quiet_any hc hev0 hg has hb a2 (waits_of (by omega) r (p+n) a5) hap (fun x o hx ho=>(hcs x o hx ho).1) he hgo listed a w hex hat
  ·rename_i hne
   refine open_any hc hev0 hg has hb a2 (waits_of (by omega) r (p+n) a5) hap (fun x o hx ho=>(hcs x o hx ho).2.resolve_left hne) (fun x hx=>?_) he hgo listed a w hex hat
   unfold softMasks at hne ⊢
   split at hne
   ·rename_i hm
    rw [if_pos hm]
    have hl:((as.drop p).take n).length=n:=by simp; omega
    rw [hl,gn,bk,List.getElem?_range hx]
    rfl
   ·exact absurd rfl hne
 | (false,n) :: r,p,gs,s,h,s1,h1,listed,a,w,hok,hsp,hev,hex,hat,hn=>by
  obtain ⟨q1,_⟩:=iu _ _ _ has
  simp only [ep] at q1
  have hblen:=jb ops.toList []
  simp only [dw,c6,ep] at hblen
  simp only [segsOk,az,decide_eq_true_eq] at hok
  obtain ⟨⟨a2,a3⟩,a5⟩:=hok
  simp only [splitSegs] at hsp
  split at hsp
  case isFalse=>cases hsp
  rw [ae] at hsp
  obtain ⟨gs',hsp,rfl⟩:=hsp
  rw [g9] at hsp
  simp only [evSegs,bw,if_false] at hev
  split at hev
  case h_2=>cases hev
  rename_i s2 h2 he
  refine seq_any hc hev0 hg has hb n p s h s2 h2 listed a w a2 (fun x hx=>?_) he hex hat (fun listed' a' w' hex' hat'=>?_)
  ·rcases a8 x n with h3 | h3
   ·rw [al] at a3
    exact a3 x (ce.2 h3)
   ·have:x=n:=by omega
    subst this
    exact waits_of (by omega) r (p+x) a5
  ·exact segs_any hc hev0 hg has hb r (p+n) gs' s2 h2 s1 h1 listed' a' w' a5 hsp hev hex' hat' hn
theorem region_sound (hc:CallOK E call) (hev0:CallEvol call) (hg:GidOK E) (hm:E.P.follows .mixedOrders=true) {segs:List (Bool × Nat)} {draw:Bool} {gs:List Seg} {id:Nat} {s1:Slots} {h1:Heap}
  (hcr:cRegion E nt segs locs ops draw=some gs) (hev:evSegs call gs s h=some (s1,h1)) (hat:At E lo nt μ0 w0 ds s h a w) (hn:∀ a' w',At E lo nt μ0 w0 ds s1 h1 a' w'→Q .normal a' w') :
  (Code.region id ops draw).wpIn (F0 ro) 0 E.P Q a w:=by
 unfold cRegion at hcr
 split at hcr
 case h_2=>cases hcr
 rename_i as has
 split at hcr
 ·rename_i hd
  subst hd
  split at hcr
  case isFalse=>cases hcr
  rename_i hh
  simp only [az] at hh
  apply wpIn_region_any hm
  have hat':At E lo nt μ0 w0 ds s h a { w with drawn:=w.drawn+1 }:=by
   obtain ⟨μ,ν,k1,k2,k3,k4,k5,k6⟩:=hat
   exact ⟨μ,ν,k1.heap rfl rfl rfl rfl,k2.same rfl rfl rfl,k3.heap rfl,k4,k5,k6⟩
  exact segs_any hc hev0 hg has hh.1 segs 0 gs s h s1 h1 _ _ _ hh.2 (by simpa using hcr) hev ⟨by simp,fun i hi=>by simp [hi]⟩ hat' hn
 ·rename_i hd
  have:draw=false:=by simpa using hd
  subst this
  cases hcr
  simp only [evSegs,bw,if_false] at hev
  split at hev
  case h_2=>cases hev
  rename_i s2 h2 he
  cases hev
  apply wpIn_region
  have:=ops_sound (ro:=ro) (Q:=Q) hc hev0 hg ops.toList 0 as s h s1 h1 a w rfl has he hat hn
  rw [List.range_eq_range']
  simpa using this
end
end Go.Abs
