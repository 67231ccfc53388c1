/-
  Texts joined.
-/
import Derived.Test.YtjmnbfijplhkfaaGreatDoorP0
import Derived.Test.YtjmnbfijplhkfaaGreatDoorP4
import Derived.Room.Shelf.Join48
set_option linter.unusedVariables false
set_option linter.unusedSimpArgs false
set_option maxRecDepth 100000
namespace Go.Abs
open Go.Proofs Go.Shelf Go.RowKit
def strsOf:List AVal→Option (List (List UInt8))
 | []=>some []
 | .str s :: r=>(strsOf r).map (s :: ·)
 | _ :: _=>none
theorem zai:∀ {cs:List AVal} {l:List (List UInt8)},strsOf cs=some l→cs.length=l.length∧∀ (j:Nat) (s:List UInt8),l[j]? = some s→cs[j]? = some (.str s)
 | [],l,h=>by simp only [strsOf] at h; cases h; exact ⟨rfl,fun j s hj=>by simp at hj⟩
 | a :: r,l,h=>by
  cases a with
  | str s =>
   simp only [strsOf,ae] at h;obtain ⟨m,h1,rfl⟩:=h;obtain ⟨h2,h3⟩:=zai h1;refine ⟨by simp [h2],fun j s' hj=>?_⟩;cases j with
   | zero=>simp at hj; subst hj; rfl
   | succ j=>simp at hj ⊢; exact h3 j s' hj
  | _=>simp only [strsOf] at h; cases h
def s7 (a:Option (Nat × Nat)) (n:Nat) (h:Heap):Option (List (List UInt8)) :=
 if n=0 then some [] else match a with
  | some (i,o)=>match h.objs[i]? with
   | some (.cells 1 cs)=>if o+n≤cs.length then strsOf ((cs.drop o).take n) else none
   | _=>none
  | none=>none
theorem va {E:Env} {μ:MM} {h:Heap} {w:World} (hr:Rel E μ h w) {a:Option (Nat × Nat)} {n:Nat} {c:Option Nat} {l:List (List UInt8)} {v:Value} (hv:VRel E μ (.slice a n c) v) (hl:s7 a n h=some l) (hn:n≠0) :
  ∃ bk o cap,v = .slice (some ⟨bk,o,none⟩) n cap∧l.length=n∧n≤cap∧bk < w.heap.size∧∀ (j:Nat) (x:ByteArray),(l.map fun s=>(⟨s.toArray⟩:ByteArray))[j]? = some x→w.cell? ⟨bk,o+j,none⟩=some (.string x):=by
 unfold s7 at hl;rw [if_neg hn] at hl;cases a with
 | none=>cases hl
 | some p =>
  obtain ⟨i,o⟩:=p;simp only at hl;cases hi:h.objs[i]? with
  | none=>rw [hi] at hl; cases hl
  | some ob =>
   rw [hi] at hl;cases ob with
   | cells esz cs =>
    obtain ⟨m,c2,e,fr,m1,m2,m3,m4,m5,m6,_⟩:=hr.obj _ _ hi;simp only [VRel] at hv;obtain ⟨ad,cap,rfl,_,k1,_,k3,_⟩:=hv;obtain ⟨x,x1,x2⟩:=k1 (by omega);rw [m1] at x1;cases x1;have had:=x2 m rfl;subst had;split at hl;case h_2=>cases hl
    rename_i cs' heq;cases heq;split at hl;case isFalse=>cases hl
    rename_i hle;obtain ⟨l1,l2⟩:=zai hl;have hll:l.length=n:=by rw [← l1]; simp; omega
    refine ⟨m.blk,m.base+o,cap,rfl,hll,k3,hr.lt i m m1,fun j y hj=>?_⟩;rw [cz,ae] at hj;obtain ⟨s,s1,rfl⟩:=hj;have s2:=l2 j s s1;have hjn:j < n:=by have:=aj s1; omega
    rw [pz,if_pos hjn,dw] at s2;obtain ⟨_,v',g1,g2⟩:=m6 _ _ s2;simp only [VRel] at g2;subst g2;rw [ji m3,show m.base+o+j=m.base+(o+j) by omega];exact g1
   | _=>cases hl
end Go.Abs
