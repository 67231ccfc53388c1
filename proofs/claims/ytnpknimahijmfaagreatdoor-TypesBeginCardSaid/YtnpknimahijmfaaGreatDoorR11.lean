/-
  Texts joined.
-/
import Derived.Test.YtnpknimahijmfaaGreatDoorR0
import Derived.Test.YtnpknimahijmfaaGreatDoorR10
import Derived.KernelRfl
import Derived.Test.YtnpknimahijmfaaGreatDoorR7
set_option linter.unusedVariables false
set_option linter.unusedSimpArgs false
set_option maxRecDepth 100000
namespace Go.Abs.Zm
open Go.Abs.Zd Go.Abs.Zh
variable {os O B:List AObj} {b w:Nat} {tN:Nat} {tb:List UInt8} {tv:AVal} {n k:Nat} {dep:Int}
section
attribute [-simp] getElem?_pos getElem?_neg List.all_eq_true
attribute [local simp] gz gs nltT nltF iltT iltF ileT nleT dg
theorem sw151 (hb:b≤tN) {d:Nat} {x:Int} (hx:-9≤x) (hx2:x≤9) (h:Ws tN tb tv B O n k dep) {j:Nat} (hj1:1≤j) (hk:k+j≤100000) {r:Nat} (hr:r < 16) (hrj:4≤r→2*KK d+1≤j)
  (hi:4≤r→Expr tN tb tv B b dep 151 (x - 1) (KK d)) (hl:4≤r→Expr tN tb tv B b dep 183 (x - 1) (KK d)) :
  ∃ O' m n',n≤n'∧Ws tN tb tv B O' n' (k+j) dep∧tN≤m∧m≤B.length∧∀ (w:Nat) (c:AExit→St→Option (AVal × Heap)),
   xK T code151B0 ⟨[(0,.val (.ptr (some (B.length,0)))),(1,.val (.int .i64 x)),(29,.val (.int .i64 r))],⟨O,b,w⟩⟩ (k:=⟨c⟩)=c .normal ⟨[],⟨O',b,min w m⟩⟩:=by
 have hKd:=KK_pos d;have hx1:IntKind.i64.wrap (x - 1)=x - 1:=dg (by omega);obtain ⟨pc,pt,px,cc,ct,cx,nt,nx',bud,hat,_⟩:=h.at';obtain ⟨hlt,hBO⟩:=h.len;have e0:r=0∨r=1∨r=2∨r=3∨(4≤r∧r≤7)∨r=8∨r=9∨r=10∨r=11∨r=12∨r=13∨r=14∨r=15:=by omega
 rcases e0 with rfl | rfl | rfl | rfl | h4 | rfl | rfl | rfl | rfl | rfl | rfl | rfl | rfl
 ·obtain ⟨r2,O1,nx,g1,g2,g3,g4,g5,g6⟩:=h.next hb (x:=3) (by decide) (by decide)
  obtain ⟨O2,m2,p2,l2,u2,e2⟩:=s150 g2 hb (by omega) (op:=21) (nn:=r2);obtain ⟨m',q1,q2,q3⟩:=jf g5 l2;refine ⟨O2,m',n+1,by omega,p2.le (by omega),q1,by omega,fun w c=>?_⟩;simp (disch:=omega) [code151B0,hat,g6,e2,q3]
 ·obtain ⟨r2,O1,nx,g1,g2,g3,g4,g5,g6⟩:=h.next hb (x:=3) (by decide) (by decide)
  obtain ⟨O2,m2,p2,l2,u2,e2⟩:=s150 g2 hb (by omega) (op:=21) (nn:=r2);obtain ⟨m',q1,q2,q3⟩:=jf g5 l2;refine ⟨O2,m',n+1,by omega,p2.le (by omega),q1,by omega,fun w c=>?_⟩;simp (disch:=omega) [code151B0,hat,g6,e2,q3]
 ·obtain ⟨r2,O1,nx,g1,g2,g3,g4,g5,g6⟩:=h.next hb (x:=256) (by decide) (by decide)
  obtain ⟨O2,m2,p2,l2,u2,e2⟩:=s153 g2 hb (by omega) (x:=r2 - 100) (by omega) (by omega);obtain ⟨m',q1,q2,q3⟩:=jf g5 l2;refine ⟨O2,m',n+1,by omega,p2.le (by omega),q1,by omega,fun w c=>?_⟩;simp (disch:=omega) [code151B0,hat,g6,e2,q3]
 ·obtain ⟨O2,m2,p2,l2,u2,e2⟩:=s154 h hb (by omega) (op:=178) (c:=[77,97,105,110]) (m:=[115]) (d:=[73]) (by decide) (by decide) (by decide);refine ⟨O2,m2,n+1,by omega,p2.le (by omega),l2,u2,fun w c=>?_⟩;simp (disch:=omega) [code151B0,hat,e2]
 ·have hrj:=hrj h4.1;have hi:=hi h4.1;obtain ⟨O1,m1,⟨n1,k1,p1⟩,l1,u1,e1⟩:=hi O n k h (by omega);obtain ⟨O2,m2,⟨n2,k2,p2⟩,l2,u2,e2⟩:=hi O1 n1 _ p1 (by omega);obtain ⟨r2,O3,nx,g1,g2,g3,g4,g5,g6⟩:=(p2.app [.cells 1 (acts151.map (AVal.int .u8))]).next hb (x:=10) (by decide) (by decide)
  obtain ⟨y,hy⟩:=pr acts151 (r:=r2) (by simp only [acts151,bg,bp]; omega);obtain ⟨O4,m4,p4,l4,u4,e4⟩:=s150 g2 hb (by omega) (op:=y) (nn:=0);obtain ⟨m',q1,q2,q3⟩:=jf g5 l4;obtain ⟨_,_,_,_,_,_,_,_,_,hat2,_⟩:=p2.at';have hlen2:=p2.len;have hat2:=fun X=>(ag (l₂:=X) hlen2.2).trans hat2
  have g7:=g4 O2.length (by omega);rw [dj] at g7;simp only [acts151,b0,f8] at g6 g7 hy;have hc:(r:Int)=4∨(r:Int)=5∨(r:Int)=6∨(r:Int)=7:=by omega
  refine ⟨O4,min m1 (min m2 m'),n2+1,by omega,p4.le (by omega),by omega,by omega,fun w c=>?_⟩;rcases hc with hc | hc | hc | hc <;> simp (disch:=omega) [code151B0,hc,hx1,e1,e2,hat2,g6,g7,hy,e4,q3,cz]
 ·have hrj:=hrj (by decide);obtain ⟨O1,m1,⟨n1,k1,p1⟩,l1,u1,e1⟩:=hl (by decide) O n k h (by omega);obtain ⟨O2,m2,p2,l2,u2,e2⟩:=s150 p1 hb (by omega) (op:=136) (nn:=0);refine ⟨O2,min m1 m2,n1+1,by omega,p2.le (by omega),by omega,by omega,fun w c=>?_⟩;simp (disch:=omega) [code151B0,hx1,e1,e2,cz]
 ·have hrj:=hrj (by decide);obtain ⟨O1,m1,p1,l1,u1,e1⟩:=s150 h hb (by omega) (op:=25) (nn:=6);obtain ⟨O2,m2,⟨n2,k2,p2⟩,l2,u2,e2⟩:=hi (by decide) O1 _ _ p1 (by omega);obtain ⟨O3,m3,p3,l3,u3,e3⟩:=s150 p2 hb (by omega) (op:=46) (nn:=0);refine ⟨O3,min m1 (min m2 m3),n2+1,by omega,p3.le (by omega),by omega,by omega,fun w c=>?_⟩;simp (disch:=omega) [code151B0,hx1,e1,e2,e3,cz]
 ·have hrj:=hrj (by decide);obtain ⟨O1,m1,p1,l1,u1,e1⟩:=s150 h hb (by omega) (op:=25) (nn:=5);obtain ⟨O2,m2,p2,l2,u2,e2⟩:=s154 p1 hb (by omega) (op:=180) (c:=[65]) (m:=[102]) (d:=[73]) (by decide) (by decide) (by decide);refine ⟨O2,min m1 m2,n+1+1,by omega,p2.le (by omega),by omega,by omega,fun w c=>?_⟩;simp (disch:=omega) [code151B0,hx1,e1,e2,cz]
 ·have hrj:=hrj (by decide);obtain ⟨O1,m1,p1,l1,u1,e1⟩:=s150 h hb (by omega) (op:=25) (nn:=5);obtain ⟨O2,m2,⟨n2,k2,p2⟩,l2,u2,e2⟩:=hi (by decide) O1 _ _ p1 (by omega);obtain ⟨O3,m3,p3,l3,u3,e3⟩:=s154 p2 hb (by omega) (op:=182) (c:=[65]) (m:=[118]) (d:=[40,73,41,73]) (by decide) (by decide) (by decide);refine ⟨O3,min m1 (min m2 m3),n2+1,by omega,p3.le (by omega),by omega,by omega,fun w c=>?_⟩;simp (disch:=omega) [code151B0,hx1,e1,e2,e3,cz]
 ·have hrj:=hrj (by decide);obtain ⟨O2,m2,⟨n2,k2,p2⟩,l2,u2,e2⟩:=hi (by decide) O _ _ h (by omega);obtain ⟨O3,m3,p3,l3,u3,e3⟩:=s154 p2 hb (by omega) (op:=184) (c:=[77,97,105,110]) (m:=[104,101,108,112]) (d:=[40,73,41,73]) (by decide) (by decide) (by decide);refine ⟨O3,min m2 m3,n2+1,by omega,p3.le (by omega),by omega,by omega,fun w c=>?_⟩;simp (disch:=omega) [code151B0,hx1,e2,e3,cz]
 ·have hrj:=hrj (by decide);obtain ⟨r2,O1,nx,g1,g2,g3,g4,g5,g6⟩:=h.next hb (x:=2) (by decide) (by decide)
  obtain ⟨O2,m2,p2,l2,u2,e2⟩:=s150 g2 hb (by omega) (op:=25) (nn:=6+r2);obtain ⟨O3,m3,p3,l3,u3,e3⟩:=s150 p2 hb (by omega) (op:=190) (nn:=0);obtain ⟨m',q1,q2,q3⟩:=jf g5 l2;refine ⟨O3,min m' m3,n+1+1,by omega,p3.le (by omega),by omega,by omega,fun w c=>?_⟩;simp (disch:=omega) [code151B0,hat,g6,e2,e3,q3,cz]
 ·have hrj:=hrj (by decide);obtain ⟨O1,m1,p1,l1,u1,e1⟩:=s150 h hb (by omega) (op:=25) (nn:=5);obtain ⟨pc,pt,px,cc,ct,cx,nt,nx,bud,cs,h1,h6,h9,h7,hkw,_,_,h8⟩:=p1.put (b:=b) (x:=⟨193,0,0,[66],[],[],[]⟩) hb (by omega) ⟨by decide,by decide,by decide,by decide⟩;simp only [InsU.cells] at h7;refine ⟨_,min m1 B.length,n+1+1,by omega,h8.le (by omega),by omega,by omega,fun w c=>?_⟩;simp (disch:=omega) [code151B0,hx1,e1,-dk,h1,h7,h6,h9,hkw,InsU.cells,cz]
 ·have hrj:=hrj (by decide);obtain ⟨O1,m1,⟨n1,k1,p1⟩,l1,u1,e1⟩:=hl (by decide) O n k h (by omega);obtain ⟨O2,m2,⟨n2,k2,p2⟩,l2,u2,e2⟩:=hl (by decide) O1 n1 _ p1 (by omega);obtain ⟨O3,m3,p3,l3,u3,e3⟩:=s150 p2 hb (by omega) (op:=148) (nn:=0);refine ⟨O3,min m1 (min m2 m3),n2+1,by omega,p3.le (by omega),by omega,by omega,fun w c=>?_⟩;simp (disch:=omega) [code151B0,hx1,e1,e2,e3,cz]
theorem s151_of (hb:b≤tN) {d:Nat} {x:Int} (hx:-9≤x) (hx2:x≤9) {j:Nat} (hj1:1≤j) (hj:0 < x→2*KK d+1≤j)
  (hi:0 < x→Expr tN tb tv B b dep 151 (x - 1) (KK d)) (hl:0 < x→Expr tN tb tv B b dep 183 (x - 1) (KK d)):Expr tN tb tv B b dep 151 x j:=by
 intro O n k h hk;obtain ⟨pc,pt,px,cc,ct,cx,nt,nx',bud,hat,hset⟩:=h.at';obtain ⟨hlt,hBO⟩:=h.len;have h1:=hset dep (IntKind.i64.wrap (bud - 1));obtain ⟨r,O2,nx,g1,g2,g3,g4,g5,g6⟩:=h1.next hb (x:=16) (by decide) (by decide)
 have hat2:=g4 B.length (by omega);rw [de,if_pos rfl,if_pos hBO] at hat2;have hset2:∀ y,(O.set B.length y)[B.length]? = some y:=fun y=>by rw [de,if_pos rfl,if_pos hBO]
 have hr4:(r:Int).tmod 4=((r % 4:Nat):Int):=by rw [Int.tmod_eq_emod_of_nonneg (by omega)]; omega
 by_cases c1:x≤0
 ·obtain ⟨O3,m3,n3,k3,p3,l3,u3,e3⟩:=sw151 (d:=d) hb hx hx2 g2 hj1 hk (r:=r % 4) (by omega) (fun h=>by omega) (fun h=>by omega) (fun h=>by omega);obtain ⟨m',q1,q2,q3⟩:=jf g5 l3;have hmm:min B.length m'=m':=by omega
  refine ⟨O3,m',⟨n3,k3,p3⟩,q1,by omega,fun w=>?_⟩;simp only [Int.natCast_emod,bh] at e3;simp (disch:=omega) [av t151,code151,hat,hset2,g6,hat2,c1,hr4,e3,q3,hmm]
 ·by_cases c2:IntKind.i64.wrap (bud - 1)≤0
  ·obtain ⟨O3,m3,n3,k3,p3,l3,u3,e3⟩:=sw151 (d:=d) hb hx hx2 g2 hj1 hk (r:=r % 4) (by omega) (fun h=>by omega) (fun h=>by omega) (fun h=>by omega);obtain ⟨m',q1,q2,q3⟩:=jf g5 l3;have hmm:min B.length m'=m':=by omega
   refine ⟨O3,m',⟨n3,k3,p3⟩,q1,by omega,fun w=>?_⟩;simp only [Int.natCast_emod,bh] at e3;simp (disch:=omega) [av t151,code151,hat,hset2,g6,hat2,c1,c2,hr4,e3,q3,hmm]
  ·obtain ⟨O3,m3,n3,k3,p3,l3,u3,e3⟩:=sw151 (d:=d) hb hx hx2 g2 hj1 hk (r:=r) (by omega) (fun _=>hj (by omega)) (fun _=>hi (by omega)) (fun _=>hl (by omega));obtain ⟨m',q1,q2,q3⟩:=jf g5 l3;have hmm:min B.length m'=m':=by omega
   refine ⟨O3,m',⟨n3,k3,p3⟩,q1,by omega,fun w=>?_⟩;simp (disch:=omega) [av t151,code151,hat,hset2,g6,hat2,c1,c2,e3,q3,hmm]
end
def acts183:List Int:=[97,101,105,109,127,131,113,129]
def acts183b:List Int:=[121,123,125]
section
attribute [-simp] getElem?_pos getElem?_neg List.all_eq_true
attribute [local simp] gz gs nltT nltF iltT iltF ileT nleT dg
theorem s183_of (hb:b≤tN) {i l j:Nat} {x:Int} (hx:-8≤x) (hx2:x≤9) (hj1:i+1≤j) (hj:0 < x→2*l+1≤j∧l+i+1≤j)
  (hi:Expr tN tb tv B b dep 151 (x - 1) i) (hl:0 < x→Expr tN tb tv B b dep 183 (x - 1) l):Expr tN tb tv B b dep 183 x j:=by
 intro O n k h hk;have hx1:IntKind.i64.wrap (x - 1)=x - 1:=dg (by omega);obtain ⟨hlt,hBO⟩:=h.len;obtain ⟨_,_,_,_,_,_,_,_,_,hat,_⟩:=h.at';obtain ⟨r,O1,nx1,f1,f2,f3,f4,f5,f6⟩:=h.next hb (x:=6) (by decide) (by decide)
 have hBO1:=f2.len.2;obtain ⟨_,_,_,_,_,_,_,_,_,hat1,_⟩:=f2.at';by_cases c1:0 < x∧r < 2
 ·obtain ⟨c1,c2⟩:=c1;obtain ⟨j1,j2⟩:=hj c1;have hc:(r:Int) < 2:=by omega
  obtain ⟨O2,m2,⟨n2,k2,p2⟩,l2,u2,e2⟩:=hl c1 O1 n k f2 (by omega);obtain ⟨O3,m3,⟨n3,k3,p3⟩,l3,u3,e3⟩:=hl c1 O2 n2 _ p2 (by omega);obtain ⟨r2,O4,nx,g1,g2,g3,g4,g5,g6⟩:=(p3.app [.cells 1 (acts183.map (AVal.int .u8))]).next hb (x:=8) (by decide) (by decide)
  obtain ⟨y,hy⟩:=pr acts183 (r:=r2) (by simp only [acts183,bg,bp]; omega);obtain ⟨O5,m5,p5,l5,u5,e5⟩:=s150 g2 hb (by omega) (op:=y) (nn:=0);obtain ⟨m',q1,q2,q3⟩:=jf g5 l5;obtain ⟨m'',q4,q5,q6⟩:=jf f5 l2;obtain ⟨_,_,_,_,_,_,_,_,_,hat3,_⟩:=p3.at';have hlen3:=p3.len;have hat3:=fun X=>(ag (l₂:=X) hlen3.2).trans hat3
  have g7:=g4 O3.length (by omega);rw [dj] at g7;simp only [acts183,b0,f8] at g6 g7 hy;refine ⟨O5,min m'' (min m3 m'),⟨n3+1,by omega,p5.le (by omega)⟩,by omega,by omega,fun w=>?_⟩;have hmm:∀ w,min w (min O.length (min m'' (min m3 m')))=min w (min m'' (min m3 m')):=fun w=>by omega
  rw [av t183]; simp (disch:=omega) [code183,code183B0,hat,f6,c1,hc,hx1,e2,e3,hat3,g6,g7,hy,e5,q3,q6,hmm,cz]
 ·by_cases c2:0 < x∧r=2
  ·obtain ⟨c2,rfl⟩:=c2;obtain ⟨j1,j2⟩:=hj c2;obtain ⟨O2,m2,⟨n2,k2,p2⟩,l2,u2,e2⟩:=hl c2 O1 n k f2 (by omega);obtain ⟨O3,m3,⟨n3,k3,p3⟩,l3,u3,e3⟩:=hi O2 n2 _ p2 (by omega);obtain ⟨r2,O4,nx,g1,g2,g3,g4,g5,g6⟩:=(p3.app [.cells 1 (acts183b.map (AVal.int .u8))]).next hb (x:=3) (by decide) (by decide)
   obtain ⟨y,hy⟩:=pr acts183b (r:=r2) (by simp only [acts183b,bg,bp]; omega);obtain ⟨O5,m5,p5,l5,u5,e5⟩:=s150 g2 hb (by omega) (op:=y) (nn:=0);obtain ⟨m',q1,q2,q3⟩:=jf g5 l5;obtain ⟨m'',q4,q5,q6⟩:=jf f5 l2;obtain ⟨_,_,_,_,_,_,_,_,_,hat3,_⟩:=p3.at';have hlen3:=p3.len;have hat3:=fun X=>(ag (l₂:=X) hlen3.2).trans hat3
   have g7:=g4 O3.length (by omega);rw [dj] at g7;simp only [acts183b,b0,f8] at g6 g7 hy;refine ⟨O5,min m'' (min m3 m'),⟨n3+1,by omega,p5.le (by omega)⟩,by omega,by omega,fun w=>?_⟩;have hmm:∀ w,min w (min O.length (min m'' (min m3 m')))=min w (min m'' (min m3 m')):=fun w=>by omega
   rw [av t183]; simp (disch:=omega) [code183,code183B0,hat,f6,c2,hx1,e2,e3,hat3,g6,g7,hy,e5,q3,q6,hmm,cz]
  ·have hd:∀ z:List AVal,True:=fun _=>trivial
   by_cases c3:r=3
   ·subst c3;obtain ⟨O5,m5,p5,l5,u5,e5⟩:=s150 f2 hb (by omega) (op:=22) (nn:=3);obtain ⟨m'',q4,q5,q6⟩:=jf f5 l5;refine ⟨O5,m'',⟨n+1,by omega,p5.le (by omega)⟩,by omega,by omega,fun w=>?_⟩;have hmm:∀ w,min w (min O.length m'')=min w m'':=fun w=>by omega
    by_cases c4:0 < x
    ·rw [av t183]; simp (disch:=omega) [code183,code183B0,hat,f6,c4,e5,q6,hmm,cz]
    ·rw [av t183]; simp (disch:=omega) [code183,code183B0,hat,f6,c4,e5,q6,hmm,cz]
   ·by_cases c4:r=4
    ·subst c4;exact k4_183 hb h f2 f5 f6 hat (by omega) (by omega)
    ·have hc:¬ (r:Int) < 2∨¬ 0 < x:=by omega
     obtain ⟨O2,m2,⟨n2,k2,p2⟩,l2,u2,e2⟩:=hi O1 n k f2 (by omega);obtain ⟨O5,m5,p5,l5,u5,e5⟩:=s150 p2 hb (by omega) (op:=133) (nn:=0);obtain ⟨m'',q4,q5,q6⟩:=jf f5 l2;have hmm:∀ w,min w (min O.length (min m'' m5))=min w (min m'' m5):=fun w=>by omega
     have n3:¬ (r:Int)=3:=by omega
     have n4:¬ (r:Int)=4:=by omega
     refine ⟨O5,min m'' m5,⟨n2+1,by omega,p5.le (by omega)⟩,by omega,by omega,fun w=>?_⟩;by_cases c5:0 < x
     ·have n1:¬ (r:Int) < 2:=by omega
      have n2:¬ (r:Int)=2:=by omega
      rw [av t183]; simp (disch:=omega) [code183,code183B0,hat,f6,c5,n1,n2,n3,n4,hx1,e2,e5,q6,hmm,cz]
     ·rw [av t183]; simp (disch:=omega) [code183,code183B0,hat,f6,c5,n3,n4,hx1,e2,e5,q6,hmm,cz]
end
theorem mw (hb:b≤tN):∀ (d:Nat) (x:Int),-9≤x→x≤9→x≤d→Expr tN tb tv B b dep 151 x (KK d)∧(-8≤x→Expr tN tb tv B b dep 183 x (KK d))
 | 0,x,h1,h2,h3=>⟨s151_of (d:=0) hb h1 h2 (by decide) (fun h=>by omega) (fun h=>by omega) (fun h=>by omega),fun h4 =>
   s183_of (i:=1) (l:=0) hb h4 h2 (by decide) (fun h=>by omega) (s151_of (d:=0) hb (by omega) (by omega) (by decide) (fun h=>by omega) (fun h=>by omega) (fun h=>by omega)) (fun h=>by omega)⟩
 | d+1,x,h1,h2,h3=>by have hp:=KK_pos d;refine ⟨s151_of (d:=d) hb h1 h2 (by simp only [KK]; omega) (fun h=>by simp only [KK]; omega) (fun h=>(mw hb d (x - 1) (by omega) (by omega) (by omega)).1) (fun h=>(mw hb d (x - 1) (by omega) (by omega) (by omega)).2 (by omega)),fun h4=>?_⟩;exact s183_of (i:=KK d) (l:=KK d) hb h4 h2 (by simp only [KK]; omega) (fun h=>⟨by simp only [KK]; omega,by simp only [KK]; omega⟩) (mw hb d (x - 1) (by omega) (by omega) (by omega)).1 (fun h=>(mw hb d (x - 1) (by omega) (by omega) (by omega)).2 (by omega))
end Go.Abs.Zm

namespace Go.Abs.Zm
open Go.Abs.Zd Go.Abs.Zh
variable {os O B:List AObj} {b w:Nat} {tN:Nat} {tb:List UInt8} {tv:AVal} {dep:Int} {n k:Nat}
def Act (tN:Nat) (tb:List UInt8) (tv:AVal) (B:List AObj) (b:Nat) (dep:Int) (g:Nat) (args:List AVal) (j:Nat):Prop :=
 ∀ (O:List AObj) (n k:Nat),Ws tN tb tv B O n k dep→k+j≤100000→Did tN tb tv B b g args (.tuple []) O fun O'=>∃ n',n≤n'∧Ws tN tb tv B O' n' (k+j) dep
theorem Ws.setN (h:Ws tN tb tv B O n k dep) {i n':Nat} (hi:i < n) {a0 a2 a3 a4 a5:AVal} {pc:Option (Nat × Nat)} {cc:Option Nat} (hat:O[B.length]? = some (.cells 6 [a0,.slice pc n' cc,a2,a3,a4,a5])) :
  ∃ q cs,pc=some (q,0)∧n'=n∧B.length < q∧q < O.length∧O[q]? = some (.cells 7 cs)∧cs.length=n*7∧∀ z:Int,Ws tN tb tv B (O.set q (.cells 7 (cs.take (i*7+1) ++ .int .i64 z :: cs.drop (i*7+2)))) n k dep:=by
 obtain ⟨pc',pt,px,cc',ct,cx,C,S,M,bud,hW,rfl,h2,h3,h4⟩:=h.ex;have e:=hat.symm.trans hW.wr;simp only [wrO,bt,AObj.cells.injEq,km,AVal.slice.injEq,true_and,and_true] at e;obtain ⟨_,⟨e1,e2,e3⟩,_⟩:=e;subst e1 e2 e3;cases pc with
 | none=>have:=(hW.c.none rfl).1; rw [this] at hi; simp at hi
 | some q =>
  obtain ⟨q,o⟩:=q;obtain ⟨h5,h6,h7,h8⟩:=hW.c.some q o rfl;subst h5;have hlen:(C.flatMap InsU.cells).length=C.length*7:=pa InsU.cells 7 (fun _=>rfl) C;refine ⟨q,_,rfl,rfl,h7,aj h8,h8,hlen,fun z=>?_⟩;obtain ⟨C',hC,hW'⟩:=hW.setN rfl hi z;have hc:i*7+1 < (C.flatMap InsU.cells).length:=by rw [hlen]; omega
  have hs:(C.flatMap InsU.cells).set (i*7+1) (.int .i64 z)=(C.flatMap InsU.cells).take (i*7+1) ++ .int .i64 z :: (C.flatMap InsU.cells).drop (i*7+2):=by rw [List.set_eq_take_append_cons_drop,if_pos hc]
  rw [hs] at hW';exact ⟨_,_,_,_,_,_,_,_,_,_,hW',hC,h2,h3,h4⟩
theorem s210 (h:Ws tN tb tv B O n k dep) (hb:b≤tN) (hk:k≤100000) {op:Int} :
  Did tN tb tv B b 210 [.ptr (some (B.length,0)),.int .u8 op] (.int .i64 n) O fun O'=>Ws tN tb tv B O' (n+1) (k+1) dep:=by
 obtain ⟨hlt,hBO⟩:=h.len;obtain ⟨O1,m1,p1,l1,u1,e1⟩:=s150 h hb hk (op:=op) (nn:=0);obtain ⟨_,_,_,_,_,_,_,_,_,hat1,_⟩:=p1.at';obtain ⟨_,_,_,_,_,_,_,_,_,_,_,hn1,_⟩:=p1.ex;refine ⟨O1,m1,p1,l1,u1,fun w=>?_⟩;simp (disch:=omega) [-getElem?_pos,-getElem?_neg,-List.all_eq_true,gz,gs,nltT,nltF,iltT,iltF,ileT,nleT,dg,-sget,jv,jw,jx,av t210,code210,e1,hat1]
theorem natInt1 (r:Nat):((r:Int)=1)=(r=1):=by simp; omega
theorem natInt2 (r:Nat):((r:Int)=2)=(r=2):=by simp; omega
section
attribute [-simp] getElem?_pos getElem?_neg List.all_eq_true sget
attribute [local simp] gz gs nltT nltF iltT iltF ileT nleT dg jv jw jx
theorem sw184 (hb:b≤tN) (h:Ws tN tb tv B O n k dep) (hk:k+2≤100000) {r:Nat} :
  ∃ O' m n',n≤n'∧Ws tN tb tv B O' n' (k+2) dep∧tN≤m∧m≤B.length∧∀ (w:Nat) (c:AExit→St→Option (AVal × Heap)),
   xK T code184B0 ⟨[(0,.val (.ptr (some (B.length,0)))),(6,.val (.int .i64 r))],⟨O,b,w⟩⟩ (k:=⟨c⟩)=c .normal ⟨[],⟨O',b,min w m⟩⟩:=by
 obtain ⟨hlt,hBO⟩:=h.len;have c4:r=0∨r=1∨r=2∨(¬ r=0∧¬ r=1∧¬ r=2):=by omega
 rcases c4 with rfl | rfl | rfl | ⟨c1,c2,c3⟩
 ·obtain ⟨O2,m2,p2,l2,u2,e2⟩:=s150 h hb (by omega) (op:=1) (nn:=0);refine ⟨O2,m2,n+1,by omega,p2.le (by omega),l2,u2,fun w c=>?_⟩;simp (disch:=omega) [code184B0,e2]
 ·obtain ⟨pc,pt,px,cc,ct,cx,nt,nx,bud,cs,h1,h6,h9,h7,hkw,_,_,h8⟩:=h.put (b:=b) (x:=⟨187,0,0,[66],[],[],[]⟩) hb (by omega) ⟨by decide,by decide,by decide,by decide⟩;simp only [InsU.cells] at h7;refine ⟨_,B.length,n+1,by omega,h8.le (by omega),by omega,by omega,fun w c=>?_⟩;simp (disch:=omega) [code184B0,-dk,h1,h7,h6,h9,hkw,InsU.cells]
 ·obtain ⟨O1,m1,p1,l1,u1,e1⟩:=s150 h hb (by omega) (op:=25) (nn:=5);obtain ⟨pc,pt,px,cc,ct,cx,nt,nx,bud,cs,h1,h6,h9,h7,hkw,_,_,h8⟩:=p1.put (b:=b) (x:=⟨192,0,0,[66],[],[],[]⟩) hb (by omega) ⟨by decide,by decide,by decide,by decide⟩;simp only [InsU.cells] at h7;refine ⟨_,min m1 B.length,n+1+1,by omega,h8.le (by omega),by omega,by omega,fun w c=>?_⟩;simp (disch:=omega) [code184B0,e1,-dk,h1,h7,h6,h9,hkw,InsU.cells,cz]
 ·obtain ⟨pc,pt,px,cc,ct,cx,nt,nx,bud,cs,h1,h6,h9,h7,hkw,_,_,h8⟩:=h.put (b:=b) (x:=⟨187,0,0,[65],[],[],[]⟩) hb (by omega) ⟨by decide,by decide,by decide,by decide⟩;simp only [InsU.cells] at h7;refine ⟨_,B.length,n+1,by omega,h8.le (by omega),by omega,by omega,fun w c=>?_⟩;simp (disch:=omega) [code184B0,c1,natInt1,c2,natInt2,c3,-dk,h1,h7,h6,h9,hkw,InsU.cells]
theorem s184 (hb:b≤tN):Act tN tb tv B b dep 184 [.ptr (some (B.length,0))] 2:=fun O n k h hk=>by
 obtain ⟨hlt,hBO⟩:=h.len;obtain ⟨_,_,_,_,_,_,_,_,_,hat,_⟩:=h.at';obtain ⟨r,O1,nx1,f1,f2,f3,f4,f5,f6⟩:=h.next hb (x:=5) (by decide) (by decide)
 obtain ⟨O2,m2,n2,q1,p2,l2,u2,e2⟩:=sw184 hb f2 hk (r:=r);obtain ⟨m',q4,q5,q6⟩:=jf f5 l2;have hmm:∀ w,min w (min O.length m')=min w m':=fun w=>by omega
 have hm2:min O.length m'=m':=by omega
 refine ⟨O2,m',⟨n2,q1,p2⟩,q4,by omega,fun w=>?_⟩;simp (disch:=omega) [av t184,code184,hat,f6,e2,q6,hmm,hm2]
theorem sw188 (hb:b≤tN) (h:Ws tN tb tv B O n k dep) (hk:k+(KK 1+2)≤100000) {r:Nat} :
  ∃ O' m n',n≤n'∧Ws tN tb tv B O' n' (k+(KK 1+2)) dep∧tN≤m∧m≤B.length∧∀ (w:Nat) (c:AExit→St→Option (AVal × Heap)),
   xK T code188B0 ⟨[(0,.val (.ptr (some (B.length,0)))),(6,.val (.int .i64 r))],⟨O,b,w⟩⟩ (k:=⟨c⟩)=c .normal ⟨[],⟨O',b,min w m⟩⟩:=by
 have hKK:KK 1=5:=rfl;have h151:Expr tN tb tv B b dep 151 1 (KK 1):=(mw hb 1 1 (by decide) (by decide) (by decide)).1;have c4:r=0∨r=1∨r=2∨(¬ r=0∧¬ r=1∧¬ r=2):=by omega
 rcases c4 with rfl | rfl | rfl | ⟨c1,c2,c3⟩
 ·obtain ⟨O1,m1,p1,l1,u1,e1⟩:=s150 h hb (by omega) (op:=25) (nn:=7);obtain ⟨O2,m2,p2,l2,u2,e2⟩:=s154 p1 hb (by omega) (op:=184) (c:=[115,121,115]) (m:=[97,100,100]) (d:=[40,91,66,41,73]) (by decide) (by decide) (by decide);obtain ⟨O3,m3,p3,l3,u3,e3⟩:=s150 p2 hb (by omega) (op:=54) (nn:=1);refine ⟨O3,min m1 (min m2 m3),n+1+1+1,by omega,p3.le (by omega),by omega,by omega,fun w c=>?_⟩;simp (disch:=omega) [code188B0,e1,e2,e3,cz]
 ·obtain ⟨O1,m1,⟨n1,k1,p1⟩,l1,u1,e1⟩:=h151 O n k h (by omega);obtain ⟨O2,m2,p2,l2,u2,e2⟩:=s154 p1 hb (by omega) (op:=184) (c:=[115,121,115]) (m:=[103,101,116]) (d:=[40,73,41,91,66]) (by decide) (by decide) (by decide);obtain ⟨O3,m3,p3,l3,u3,e3⟩:=s150 p2 hb (by omega) (op:=58) (nn:=7);refine ⟨O3,min m1 (min m2 m3),n1+1+1,by omega,p3.le (by omega),by omega,by omega,fun w c=>?_⟩;simp (disch:=omega) [code188B0,e1,e2,e3,cz]
 ·obtain ⟨O1,m1,⟨n1,k1,p1⟩,l1,u1,e1⟩:=h151 O n k h (by omega);obtain ⟨O2,m2,p2,l2,u2,e2⟩:=s150 p1 hb (by omega) (op:=25) (nn:=7);obtain ⟨O3,m3,p3,l3,u3,e3⟩:=s154 p2 hb (by omega) (op:=184) (c:=[115,121,115]) (m:=[115,101,116]) (d:=[40,73,91,66,41,86]) (by decide) (by decide) (by decide);refine ⟨O3,min m1 (min m2 m3),n1+1+1,by omega,p3.le (by omega),by omega,by omega,fun w c=>?_⟩;simp (disch:=omega) [code188B0,e1,e2,e3,cz]
 ·obtain ⟨O2,m2,p2,l2,u2,e2⟩:=s154 h hb (by omega) (op:=184) (c:=[115,121,115]) (m:=[99,111,117,110,116]) (d:=[40,41,73]) (by decide) (by decide) (by decide);obtain ⟨O3,m3,p3,l3,u3,e3⟩:=s150 p2 hb (by omega) (op:=54) (nn:=1);refine ⟨O3,min m2 m3,n+1+1,by omega,p3.le (by omega),by omega,by omega,fun w c=>?_⟩;simp (disch:=omega) [code188B0,c1,natInt1,c2,natInt2,c3,e2,e3,cz]
theorem s188 (hb:b≤tN):Act tN tb tv B b dep 188 [.ptr (some (B.length,0))] (KK 1+2):=fun O n k h hk=>by
 obtain ⟨hlt,hBO⟩:=h.len;obtain ⟨_,_,_,_,_,_,_,_,_,hat,_⟩:=h.at';obtain ⟨r,O1,nx1,f1,f2,f3,f4,f5,f6⟩:=h.next hb (x:=4) (by decide) (by decide)
 obtain ⟨O2,m2,n2,q1,p2,l2,u2,e2⟩:=sw188 hb f2 hk (r:=r);obtain ⟨m',q4,q5,q6⟩:=jf f5 l2;have hm2:min O.length m'=m':=by omega
 refine ⟨O2,m',⟨n2,q1,p2⟩,q4,by omega,fun w=>?_⟩;simp (disch:=omega) [av t188,code188,hat,f6,e2,q6,hm2]
end
end Go.Abs.Zm

namespace Go.Abs.Zm
open Go.Abs.Zd Go.Abs.Zh
variable {os O B:List AObj} {b w:Nat} {tN:Nat} {tb:List UInt8} {tv:AVal} {dep:Int} {n k:Nat}
section
attribute [-simp] getElem?_pos getElem?_neg List.all_eq_true sget
attribute [local simp] gz gs nltT nltF iltT iltF ileT nleT dg jv jw jx
theorem l209 (_:b≤tN) {j:Nat} (hs:Act tN tb tv B b dep 152 [.ptr (some (B.length,0))] j):∀ (i:Nat) (O:List AObj) (n k:Nat),i≤3→Ws tN tb tv B O n k dep→k+i*j≤100000 →
  ∃ O' m n',n≤n'∧Ws tN tb tv B O' n' (k+i*j) dep∧tN≤m∧m≤B.length∧∀ (w:Nat) (c:AExit→St→Option (AVal × Heap)),w≤B.length →
   xK T (.loop code209L0) ⟨[(0,.val (.ptr (some (B.length,0)))),(2,.val (.int .i64 i))],⟨O,b,w⟩⟩ (k:=⟨c⟩)=c (.exit 0) ⟨[(0,.val (.ptr (some (B.length,0))))],⟨O',b,min w m⟩⟩
 | 0,O,n,k,_,h,hk=>by
  obtain ⟨hlt,hBO⟩:=h.len;refine ⟨O,B.length,n,ai _,by simpa using h,by omega,ai _,fun w c hw=>?_⟩;rw [ce];have hmm:min w B.length=w:=by omega
  simp (disch:=omega) [code209L0,hmm]
 | i+1,O,n,k,hi,h,hk=>by
  have hm:(i+1)*j=j+i*j:=by rw [gj,Nat.one_mul,zp]
  obtain ⟨O1,m1,⟨n1,q1,p1⟩,l1,u1,e1⟩:=hs O n k h (by omega);obtain ⟨O2,m2,n2,q2,p2,l2,u2,e2⟩:=l209 ‹_› hs i O1 n1 (k+j) (by omega) p1 (by omega);have ek:k+j+i*j=k+(i+1)*j:=by omega
  rw [ek] at p2;refine ⟨O2,min m1 m2,n2,by omega,p2,by omega,by omega,fun w c hw=>?_⟩;have e2:=e2 (min w m1) c (by omega);rw [ce];have c1:(0:Int) < (i:Int)+1:=by omega
  generalize ACode.loop code209L0=L at e2 ⊢;simp (disch:=omega) [code209L0,e1,e2,c1,cz]
theorem s209 (hb:b≤tN) (hd:0≤dep) (hd2:dep≤1000) {j:Nat} (hs:Act tN tb tv B b (dep+1) 152 [.ptr (some (B.length,0))] j):Act tN tb tv B b dep 209 [.ptr (some (B.length,0))] (3*j):=fun O n k h hk=>by
 obtain ⟨hlt,hBO⟩:=h.len;obtain ⟨pc,pt,px,cc,ct,cx,nt,nx',bud,hat,hset⟩:=h.at';have h1:=hset (dep+1) bud;have hset2:∀ y,(O.set B.length y)[B.length]? = some y:=fun y=>by rw [de,if_pos rfl,if_pos hBO]
 obtain ⟨r,O2,nx,g1,g2,g3,g4,g5,g6⟩:=h1.next hb (x:=3) (by decide) (by decide)
 have hmul:(r+1)*j≤3*j:=il _ (by omega);obtain ⟨O3,m3,n3,q3,p3,l3,u3,e3⟩:=l209 hb hs (r+1) O2 n k (by omega) g2 (by omega);obtain ⟨pc3,pt3,px3,cc3,ct3,cx3,nt3,nx3,bud3,hat3,hset3⟩:=p3.at';have h4:=hset3 dep bud3;obtain ⟨m',q4,q5,q6⟩:=jf g5 l3;have hnx:=nx_le g5 B.length;have e3:=fun c=>e3 (nx B.length) c hnx
 simp only [Int.natCast_add,bh] at e3;have er:(1:Int)+r=r+1:=by omega
 have w1:IntKind.i64.wrap (dep+1)=dep+1:=dg (by omega);have w2:IntKind.i64.wrap (dep+1 - 1)=dep:=by rw [Int.add_sub_cancel]; exact dg (by omega)
 have hmm:min m' B.length=m':=by omega
 have hmm2:min B.length m'=m':=by omega
 refine ⟨_,m',⟨n3,q3,h4.le (by omega)⟩,q4,by omega,fun w=>?_⟩;simp (disch:=omega) [av t209,code209,hat,hset2,w1,g6,er,e3,hat3,w2,q6,hmm,hmm2]
end
end Go.Abs.Zm

namespace Go.Abs.Zm
open Go.Abs.Zd Go.Abs.Zh
variable {os O B:List AObj} {b w:Nat} {tN:Nat} {tb:List UInt8} {tv:AVal} {dep:Int} {n k:Nat}
theorem tail7 {i n:Nat} (hi:i < n) {cs:List AVal} (hl:cs.length=n*7):i*7+7≤cs.length∧i*7+1 < cs.length∧i*7+1+1≤cs.length:=by have:(i+1)*7≤n*7:=il _ hi;omega
theorem Ws.aim (h:Ws tN tb tv B O n k dep) (hb:b≤tN) (hk:k+1≤100000) {i:Nat} (hi:i < n) :
  ∃ (O1:List AObj) (nx:Nat→Nat) (q:Nat) (cs:List AVal) (a0 a2 a3 a3' a4 a5:AVal) (cc:Option Nat),O[B.length]? = some (.cells 6 [a0,.slice (some (q,0)) n cc,a2,a3,a4,a5])∧O1[B.length]? = some (.cells 6 [a0,.slice (some (q,0)) n cc,a2,a3',a4,a5])∧O.length≤O1.length ∧
   ((∀ w,nx w=w)∨(∀ w,nx w=min w B.length))∧(∀ w,xCall T 100208 [.ptr (some (B.length,0)),.slice none 0 (some 0)] ⟨O,b,w⟩=some (.int .i64 n,⟨O1,b,nx w⟩)) ∧
   B.length < q∧q < O.length∧O1[q]? = some (.cells 7 cs)∧cs.length=n*7∧Ws tN tb tv B (O1.set q (.cells 7 (cs.take (i*7+1) ++ .int .i64 n :: cs.drop (i*7+2)))) n (k+1) dep:=by
 obtain ⟨pc,pt,px,cc,ct,cx,nt,nx',bud,hat,_⟩:=h.at';obtain ⟨O1,nx,a3',p1,hat1,hlen,hnx,e1⟩:=s208 h hb hk .nil hat;obtain ⟨q,cs,h1,_,h3,h4,h5,h6,h7⟩:=p1.setN hi hat1;subst h1;exact ⟨O1,nx,q,cs,_,_,_,a3',_,_,cc,hat,hat1,hlen,hnx,e1,h3,((h.lows hat).1 _ _ rfl).1,h5,h6,h7 n⟩
section
attribute [-simp] getElem?_pos getElem?_neg List.all_eq_true sget
attribute [local simp] gz gs nltT nltF iltT iltF ileT nleT dg jv jw jx
theorem r185a (h:Ws tN tb tv B O n k dep) (hb:b≤tN) (hk:k+1≤100000) {i:Nat} (hi:i < n) {z:AVal} :
  ∃ O',Ws tN tb tv B O' n (k+1) dep∧∀ (w:Nat) (c:AExit→St→Option (AVal × Heap)),w≤B.length →
   xK T code185R0 ⟨[(0,.val (.ptr (some (B.length,0)))),(2,.val (.int .i64 i)),(3,.val z)],⟨O,b,w⟩⟩ (k:=⟨c⟩)=c .normal ⟨[(0,.val (.ptr (some (B.length,0)))),(3,.val z)],⟨O',b,w⟩⟩:=by
 obtain ⟨hlt,hBO⟩:=h.len;obtain ⟨O1,nx,q,cs,a0,a2,a3,a3',a4,a5,cc,hat,hat1,hlen,hnx,e1,h3,h4,h5,h6,h7⟩:=h.aim hb hk hi;obtain ⟨t1,t2,t3⟩:=tail7 hi h6;refine ⟨_,h7,fun w c hw=>?_⟩
 have hn1:n≤9223372036854775807:=by obtain ⟨_,_,_,_,_,_,_,_,_,_,_,_,hn,_⟩:=h.ex;omega
 have hwl:nx O.length=O.length∨nx O.length=B.length:=by rcases hnx with g | g <;> rw [g] <;> omega
 have hm1:min w B.length=w:=by omega
 have hm2:min w q=w:=by omega
 have hm3:min w O.length=w:=by omega
 rcases hwl with hwl | hwl <;>
  simp (maxSteps:=3000000) (disch:=omega) [ap,benign,again,AVal.eqb,code185R0,hat,e1,hat1,h5,hwl,hm1,hm2,hm3]
theorem r185b (h:Ws tN tb tv B O n k dep) (hb:b≤tN) (hk:k+1≤100000) {i:Nat} (hi:i < n) :
  ∃ O',Ws tN tb tv B O' n (k+1) dep∧∀ (w:Nat) (c:AExit→St→Option (AVal × Heap)),w≤B.length →
   xK T code185R1 ⟨[(0,.val (.ptr (some (B.length,0)))),(3,.val (.int .i64 i))],⟨O,b,w⟩⟩ (k:=⟨c⟩)=c .normal ⟨[],⟨O',b,w⟩⟩:=by
 obtain ⟨hlt,hBO⟩:=h.len;obtain ⟨O1,nx,q,cs,a0,a2,a3,a3',a4,a5,cc,hat,hat1,hlen,hnx,e1,h3,h4,h5,h6,h7⟩:=h.aim hb hk hi;obtain ⟨t1,t2,t3⟩:=tail7 hi h6;refine ⟨_,h7,fun w c hw=>?_⟩
 have hn1:n≤9223372036854775807:=by obtain ⟨_,_,_,_,_,_,_,_,_,_,_,_,hn,_⟩:=h.ex;omega
 have hwl:nx O.length=O.length∨nx O.length=B.length:=by rcases hnx with g | g <;> rw [g] <;> omega
 have hm1:min w B.length=w:=by omega
 have hm2:min w q=w:=by omega
 have hm3:min w O.length=w:=by omega
 rcases hwl with hwl | hwl <;>
  simp (maxSteps:=3000000) (disch:=omega) [ap,benign,again,AVal.eqb,code185R1,hat,e1,hat1,h5,hwl,hm1,hm2,hm3]
theorem r186a (h:Ws tN tb tv B O n k dep) (hb:b≤tN) (hk:k+1≤100000) {i:Nat} (hi:i < n) :
  ∃ O',Ws tN tb tv B O' n (k+1) dep∧∀ (w:Nat) (c:AExit→St→Option (AVal × Heap)),w≤B.length →
   xK T code186R0 ⟨[(0,.val (.ptr (some (B.length,0)))),(3,.val (.int .i64 i))],⟨O,b,w⟩⟩ (k:=⟨c⟩)=c .normal ⟨[],⟨O',b,w⟩⟩:=by
 obtain ⟨hlt,hBO⟩:=h.len;obtain ⟨O1,nx,q,cs,a0,a2,a3,a3',a4,a5,cc,hat,hat1,hlen,hnx,e1,h3,h4,h5,h6,h7⟩:=h.aim hb hk hi;obtain ⟨t1,t2,t3⟩:=tail7 hi h6;refine ⟨_,h7,fun w c hw=>?_⟩
 have hn1:n≤9223372036854775807:=by obtain ⟨_,_,_,_,_,_,_,_,_,_,_,_,hn,_⟩:=h.ex;omega
 have hwl:nx O.length=O.length∨nx O.length=B.length:=by rcases hnx with g | g <;> rw [g] <;> omega
 have hm1:min w B.length=w:=by omega
 have hm2:min w q=w:=by omega
 have hm3:min w O.length=w:=by omega
 rcases hwl with hwl | hwl <;>
  simp (maxSteps:=3000000) (disch:=omega) [ap,benign,again,AVal.eqb,code186R0,hat,e1,hat1,h5,hwl,hm1,hm2,hm3]
end
end Go.Abs.Zm

namespace Go.Abs.Zm
open Go.Abs.Zd Go.Abs.Zh
variable {os O B:List AObj} {b w:Nat} {tN:Nat} {tb:List UInt8} {tv:AVal} {dep:Int} {n k:Nat}
def acts185:List Int:=[153,154,155,156,157,158]
section
attribute [-simp] getElem?_pos getElem?_neg List.all_eq_true sget
attribute [local simp] gz gs nltT nltF iltT iltF ileT nleT dg jv jw jx
theorem s185 (hb:b≤tN) {j:Nat} (hs:Act tN tb tv B b dep 209 [.ptr (some (B.length,0))] j):Act tN tb tv B b dep 185 [.ptr (some (B.length,0))] (9+2*j):=fun O n k h hk=>by
 have hKK:KK 1=5:=rfl;obtain ⟨hlt,hBO⟩:=h.len;have h151:Expr tN tb tv B b dep 151 1 (KK 1):=(mw hb 1 1 (by decide) (by decide) (by decide)).1;obtain ⟨O1,m1,⟨n1,k1,p1⟩,l1,u1,e1⟩:=h151 O n k h (by omega);obtain ⟨r2,O2,nx,g1,g2,g3,g4,g5,g6⟩:=(p1.app [.cells 1 (acts185.map (AVal.int .u8))]).next hb (x:=6) (by decide) (by decide)
 obtain ⟨y,hy⟩:=pr acts185 (r:=r2) (by simp only [acts185,bg,bp]; omega);obtain ⟨O3,m3,p3,l3,u3,e3⟩:=s210 g2 hb (by omega) (op:=y);obtain ⟨m',q1,q2,q3⟩:=jf g5 l3;obtain ⟨_,_,_,_,_,_,_,_,_,hat1,_⟩:=p1.at';have hlen1:=p1.len;have hat1:=fun X=>(ag (l₂:=X) hlen1.2).trans hat1
 have g7:=g4 O1.length (by omega);rw [dj] at g7;simp only [acts185,b0,f8] at g6 g7 hy;obtain ⟨O4,m4,⟨n4,k4,p4⟩,l4,u4,e4⟩:=hs O3 _ _ p3 (by omega);obtain ⟨O5,m5,p5,l5,u5,e5⟩:=s210 p4 hb (by omega) (op:=167);obtain ⟨O6,p6,e6⟩:=r185a p5 hb (by omega) (i:=n1) (by omega) (z:=.int .i64 n4);obtain ⟨O7,m7,⟨n7,k7,p7⟩,l7,u7,e7⟩:=hs O6 _ _ p6 (by omega);obtain ⟨O8,p8,e8⟩:=r185b p7 hb (by omega) (i:=n4) (by omega);refine ⟨O8,min m1 (min m' (min m4 (min m5 m7))),⟨n7,by omega,p8.le (by omega)⟩,by omega,by omega,fun w=>?_⟩;simp (maxSteps:=3000000) (disch:=omega) [av t185,code185,e1,hat1,g6,g7,hy,e3,q3,e4,e5,e6,e7,e8,cz]
theorem s186 (hb:b≤tN) {j:Nat} (hs:Act tN tb tv B b dep 209 [.ptr (some (B.length,0))] j):Act tN tb tv B b dep 186 [.ptr (some (B.length,0))] (8+j):=fun O n k h hk=>by
 obtain ⟨hlt,hBO⟩:=h.len;obtain ⟨_,_,_,_,_,_,_,_,_,hat,_⟩:=h.at';obtain ⟨r2,O1,nx,g1,g2,g3,g4,g5,g6⟩:=h.next hb (x:=5) (by decide) (by decide)
 obtain ⟨O2,m2,p2,l2,u2,e2⟩:=s153 g2 hb (by omega) (x:=r2) (by omega) (by omega);obtain ⟨m',q1,q2,q3⟩:=jf g5 l2;obtain ⟨O3,m3,p3,l3,u3,e3⟩:=s150 p2 hb (by omega) (op:=54) (nn:=2);obtain ⟨_,_,_,_,_,_,_,_,_,hat3,_⟩:=p3.at';obtain ⟨O4,nx4,a4,p4,_,_,hnx4,e4⟩:=s208 p3 hb (by omega) .nil hat3;obtain ⟨O5,m5,p5,l5,u5,e5⟩:=s150 p4 hb (by omega) (op:=21) (nn:=2);simp only [bp] at e4;have q5:∀ w,min (nx4 w) m5=min w m5:=fun w=>by rcases hnx4 with g | g <;> rw [g] <;> omega
 obtain ⟨O6,m6,p6,l6,u6,e6⟩:=s210 p5 hb (by omega) (op:=158);obtain ⟨O7,m7,⟨n7,k7,p7⟩,l7,u7,e7⟩:=hs O6 _ _ p6 (by omega);obtain ⟨pc,pt,px,cc,ct,cx,nt,nx',bud,cs,h1,h6,h9,h7,hkw,_,_,p8⟩:=p7.put (b:=b) (x:=⟨132,2,-1,[],[],[],[]⟩) hb (by omega) ⟨by decide,by decide,by decide,by decide⟩;simp only [InsU.cells] at h7;simp only [InsU.cells] at p8;obtain ⟨O9,m9,p9,l9,u9,e9⟩:=s150 p8 hb (by omega) (op:=167) (nn:=n+1+1);obtain ⟨O10,p10,e10⟩:=r186a p9 hb (by omega) (i:=n+1+1+1) (by omega);simp only [Int.natCast_add,bh] at e10;refine ⟨O10,min m' (min m3 (min m5 (min m6 (min m7 (min B.length m9))))),⟨_,by omega,p10.le (by omega)⟩,by omega,by omega,fun w=>?_⟩;simp (maxSteps:=3000000) (disch:=omega) [av t186,code186,hat,g6,e2,q3,e3,e4,e5,q5,e6,e7,-dk,h1,h7,h6,h9,hkw,e9,e10,cz]
end
end Go.Abs.Zm

namespace Go.Abs.Zm
open Go.Abs.Zd Go.Abs.Zh
variable {os O B:List AObj} {b w:Nat} {tN:Nat} {tb:List UInt8} {tv:AVal} {dep:Int} {n k:Nat}
theorem Ws.last (h:Ws tN tb tv B O n k dep) (hn:0 < n) {a0 a2 a3 a4 a5:AVal} {pc:Option (Nat × Nat)} {n':Nat} {cc:Option Nat} (hat:O[B.length]? = some (.cells 6 [a0,.slice pc n' cc,a2,a3,a4,a5])) :
  ∃ q cs v,pc=some (q,0)∧n'=n∧O[q]? = some (.cells 7 cs)∧cs.length=n*7∧cs[(n - 1)*7]? = some (.int .u8 v):=by
 obtain ⟨q,cs,h1,h2,h3,h4,h5,h6,h7⟩:=h.setN (i:=0) hn hat;obtain ⟨pc',pt,px,cc',ct,cx,C,S,M,bud,hW,rfl,_⟩:=h.ex;have e:=hat.symm.trans hW.wr;simp only [wrO,bt,AObj.cells.injEq,km,AVal.slice.injEq,true_and,and_true] at e;obtain ⟨_,⟨e1,_,_⟩,_⟩:=e;have hR:Row O 7 InsU.cells C pc':=Own.row (f:=InsU.cells) (fun _=>rfl) hW.c;obtain ⟨x,hx⟩:∃ x,C[C.length - 1]? = some x:=⟨_,ah (by omega)⟩;obtain ⟨p,o,cs',ha,hpp,hpl,hcs,ht⟩:=jt hR hx;rw [← e1,h1] at ha;simp only [bt,el] at ha;obtain ⟨rfl,rfl⟩:=ha;rw [h5] at hpp;simp only [bt,AObj.cells.injEq,true_and] at hpp;subst hpp;have:=take_get (k:=0) ht (by decide);rw [eh,jj] at this;exact ⟨q,cs,x.op,h1,h2,h5,h6,this⟩
theorem Ws.trap (h:Ws tN tb tv B O n k dep) (hb:b≤tN) (hk:k≤100000) {x:TrapU} (hx:x.cls ∈ classesT) :
  ∃ pc pt px cc ct cx nt nx bud cs,O[B.length]? = some (.cells 6 [.ptr (some (tN,0)),.slice pc n cc,.slice pt nt ct,.slice px nx cx,.int .i64 dep,.int .i64 bud]) ∧
   (∀ X,(gw pt O++X)[B.length]? = some (.cells 6 [.ptr (some (tN,0)),.slice pc n cc,.slice pt nt ct,.slice px nx cx,.int .i64 dep,.int .i64 bud])) ∧
   (∀ w,dk 4 40 ⟨O++[AObj.cells 4 x.cells],b,w⟩ (.slice pt nt ct) (.slice (some (O.length,0)) 1 (some 1))=some (.slice (some (O.length+1,0)) (nt+1) none,⟨gw pt O++[AObj.cells 4 x.cells,AObj.cells 4 cs],b,kz pt w⟩)) ∧
   (∀ w,min (kz pt w) B.length=min w B.length) ∧
   Ws tN tb tv B ((gw pt O++[AObj.cells 4 x.cells,AObj.cells 4 cs]).set B.length (.cells 6 [.ptr (some (tN,0)),.slice pc n cc,.slice (some (O.length+1,0)) (nt+1) none,.slice px nx cx,.int .i64 dep,.int .i64 bud])) n (k+1) dep:=by
 obtain ⟨pc,pt,px,cc,ct,cx,C,S,M,bud,hW,rfl,h2,h3,h4⟩:=h.ex;have h1:=app_own (b:=b) (by':=40) (x:=x) (f:=TrapU.cells) (fun _=>rfl) hW.s (by have:=hW.lt; omega) (by omega) (by omega) [];have h5:=hW.addS hx [];simp only [bw,bp,jj] at h1 h5;refine ⟨pc,pt,px,cc,ct,cx,S.length,M.length,bud,_,hW.wr,fun X=>?_,h1,fun w=>?_,⟨_,_,_,_,_,_,_,_,_,_,h5,rfl,by omega,by simp; omega,by omega⟩⟩
 ·rw [ag (by simpa using hW.len),lz fun o e=>by have:=(hW.s.some _ _ e).2.2.1; omega]; exact hW.wr
 ·cases pt with
  | none=>rfl
  | some q=>obtain ⟨i,o⟩:=q; have:=(hW.s.some _ _ rfl).2.2.1; simp only [kz]; omega
def clsR:List AVal:=[.str [],.str [84,104,114,111,119,97,98,108,101],.str [77,97,116,104,70,97,117,108,116],.str [79,111,112,115],.str [78,117,108,108,70,97,117,108,116]]
theorem cls_get {r:Nat} (hr:r < 5):∃ y,clsR[r]? = some (.str y)∧y ∈ classesT∧y.length≤20:=by
 have:r=0∨r=1∨r=2∨r=3∨r=4:=by omega
 rcases this with rfl | rfl | rfl | rfl | rfl <;> exact ⟨_,rfl,by decide,by decide⟩
section
attribute [-simp] getElem?_pos getElem?_neg List.all_eq_true sget
attribute [local simp] gz gs nltT nltF iltT iltF ileT nleT dg jv jw jx
theorem t187_0 (h:Ws tN tb tv B O n k dep) (hb:b≤tN) (hk:k+1≤100000) {e from' to' at' aft:Int} (he:e = -1∨∃ i:Nat,e=i∧i < n) {y:Str} (hy:y ∈ classesT) :
  ∃ O',Ws tN tb tv B O' n (k+1) dep∧∀ (w:Nat) (c:AExit→St→Option (AVal × Heap)),w≤B.length →
   xK T code187T0 ⟨[(0,.val (.ptr (some (B.length,0)))),(2,.val (.int .i64 from')),(3,.val (.int .i64 e)),(4,.val (.int .i64 to')),(5,.val (.str y)),(7,.val (.int .i64 at')),(8,.val (.int .i64 aft))],⟨O,b,w⟩⟩ (k:=⟨c⟩)=c .normal ⟨[],⟨O',b,w⟩⟩:=by
 obtain ⟨hlt,hBO⟩:=h.len;rcases he with rfl | ⟨i,rfl,hi⟩
 ·obtain ⟨pc,pt,px,cc,ct,cx,nt,nx,bud,cs,h1,h9,h7,hkw,h8⟩:=h.trap (b:=b) (x:=⟨from',to',at',y⟩) hb (by omega) hy;simp only [TrapU.cells] at h7 h8 h9;refine ⟨_,h8,fun w c hw=>?_⟩;have hm1:min w B.length=w:=by omega
  simp (disch:=omega) [code187T0,-dk,h1,h7,h9,hkw,hm1,TrapU.cells]
 ·obtain ⟨pc0,_,_,cc0,_,_,_,_,_,hat0,_⟩:=h.at';obtain ⟨q,cs0,rfl,_,q3,q4,q5,q6,q7⟩:=h.setN hi hat0;have q7:=q7 aft;obtain ⟨t1,t2,t3⟩:=tail7 hi q6;obtain ⟨pc,pt,px,cc,ct,cx,nt,nx,bud,cs,h1,h9,h7,hkw,h8⟩:=q7.trap (b:=b) (x:=⟨from',to',at',y⟩) hb (by omega) hy;simp only [TrapU.cells] at h7 h8 h9;have hll:∀ Y,(O.set q Y).length=O.length:=fun Y=>mh
  rw [hll] at h7 h8;refine ⟨_,h8,fun w c hw=>?_⟩;have hm1:min w B.length=w:=by omega
  have hm2:min w q=w:=by omega
  have hn1:n≤9223372036854775807:=by obtain ⟨_,_,_,_,_,_,_,_,_,_,_,_,hn,_⟩:=h.ex;omega
  simp (disch:=omega) [code187T0,-dk,hat0,q5,h1,h7,h9,hkw,hm1,hm2,TrapU.cells]
theorem t187_1 (h:Ws tN tb tv B O n k dep) (hb:b≤tN) {j:Nat} (hs:Act tN tb tv B b dep 209 [.ptr (some (B.length,0))] j) (hk:k+(j+4)≤100000) {e from' to':Int} (he:e = -1∨∃ i:Nat,e=i∧i < n) :
  ∃ O' m n',n≤n'∧Ws tN tb tv B O' n' (k+(j+4)) dep∧tN≤m∧m≤B.length∧∀ (w:Nat) (c:AExit→St→Option (AVal × Heap)),w≤B.length →
   xK T code187T1 ⟨[(0,.val (.ptr (some (B.length,0)))),(2,.val (.int .i64 from')),(3,.val (.int .i64 e)),(4,.val (.int .i64 to'))],⟨O,b,w⟩⟩ (k:=⟨c⟩)=c .normal ⟨[],⟨O',b,min w m⟩⟩:=by
 obtain ⟨hlt,hBO⟩:=h.len;obtain ⟨_,_,_,_,_,_,_,_,_,hat,_⟩:=h.at';have hatX:=fun X=>(ag (l₂:=X) hBO).trans hat
 obtain ⟨r2,O2,nx,g1,g2,g3,g4,g5,g6⟩:=(h.app [.cells 1 clsR]).next hb (x:=5) (by decide) (by decide)
 obtain ⟨y,hy,hy2,hy3⟩:=cls_get (r:=r2) (by omega);have g7:=g4 O.length (by omega);rw [dj] at g7;have hO2:=g2.len.2;obtain ⟨s,hsl,hse⟩:∃ s:Str,s.length≤100∧s=76 :: ((if y=[] then throwT else y)++[59]):=⟨_,by split <;> simp [throwT] <;> omega,rfl⟩;have g8:=g2.app [.cells 1 [.str s]];obtain ⟨_,_,_,_,_,_,_,_,_,hat8,_⟩:=g8.at';obtain ⟨O3,nx3,a3,p3,hat3,hl3,hnx3,e3⟩:=s208 g8 hb (by omega) (.one O2.length s hO2 hsl (by rw [dj]; rfl)) hat8;obtain ⟨O4,m4,p4,l4,u4,e4⟩:=s150 p3 hb (by omega) (op:=87) (nn:=0);have q4:∀ w,min (nx3 w) m4=min w m4:=fun w=>by rcases hnx3 with g | g <;> rw [g] <;> omega
 obtain ⟨m',q1,q2,q3⟩:=jf g5 l4;obtain ⟨O5,m5,⟨n5,k5,p5⟩,l5,u5,e5⟩:=hs O4 _ _ p4 (by omega);obtain ⟨_,_,_,_,_,_,_,_,_,hat5,_⟩:=p5.at';obtain ⟨O6,nx6,a6,p6,hat6,hl6,hnx6,e6⟩:=s208 p5 hb (by omega) .nil hat5
 obtain ⟨O7,p7,e7⟩:=t187_0 p6 hb (by omega) (e:=e) (from':=from') (to':=to') (at':=n) (aft:=n5) (by
  rcases he with he | ⟨i,he,hi⟩
  ·exact .inl he
  ·exact .inr ⟨i,he,by omega⟩) hy2
 have q6:∀ w,w≤B.length→nx6 w=w:=fun w hw=>by rcases hnx6 with g | g <;> rw [g] <;> omega
 simp only [clsR] at g6 g7 hy;simp only [bp,f9] at e3 e6;refine ⟨O7,min m' m5,n5,by omega,p7.le (by omega),by omega,by omega,fun w c hw=>?_⟩;have q7:nx6 (min w (min m' m5))=min w (min m' m5):=q6 _ (by omega);have e7:=e7 (min w (min m' m5)) c (by omega);by_cases hy0:y=[]
 ·rw [if_pos hy0] at hse;subst hy0;simp only [hse,throwT,ci,bw] at e3;simp (disch:=omega) [code187T1,hatX,g6,g7,hy,e3,e4,q4,q3,e5,e6,q7,e7,cz]
 ·rw [if_neg hy0] at hse;rw [hse] at e3;simp (disch:=omega) [code187T1,hatX,g6,g7,hy,hy0,e3,e4,q4,q3,e5,e6,q7,e7,cz]
end
end Go.Abs.Zm

namespace Go.Abs.Zm
open Go.Abs.Zd Go.Abs.Zh
variable {os O B:List AObj} {b w:Nat} {tN:Nat} {tb:List UInt8} {tv:AVal} {dep:Int} {n k:Nat}
section
attribute [-simp] getElem?_pos getElem?_neg List.all_eq_true sget
attribute [local simp] gz gs nltT nltF iltT iltF ileT nleT dg jv jw jx
theorem t187_2 (h:Ws tN tb tv B O n k dep) (hn:0 < n) (hb:b≤tN) {j:Nat} (hs:Act tN tb tv B b dep 209 [.ptr (some (B.length,0))] j) (hk:k+(j+5)≤100000) {from':Int} :
  ∃ O' m n',n≤n'∧Ws tN tb tv B O' n' (k+(j+5)) dep∧tN≤m∧m≤B.length∧∀ (w:Nat) (c:AExit→St→Option (AVal × Heap)),w≤B.length →
   xK T code187T2 ⟨[(0,.val (.ptr (some (B.length,0)))),(2,.val (.int .i64 from')),(3,.val (.int .i64 (-1)))],⟨O,b,w⟩⟩ (k:=⟨c⟩)=c .normal ⟨[],⟨O',b,min w m⟩⟩:=by
 obtain ⟨hlt,hBO⟩:=h.len;obtain ⟨pc,pt,px,cc,ct,cx,nt,nx',bud,hat,_⟩:=h.at';obtain ⟨q,cs,v,rfl,_,h3,h4,h5⟩:=h.last hn hat
 have hn1:n≤9223372036854775807:=by obtain ⟨_,_,_,_,_,_,_,_,_,_,_,_,hn,_⟩:=h.ex;omega
 have w1:IntKind.i64.wrap ((n:Int) - 1)=((n - 1:Nat):Int):=by rw [dg (by omega)]; omega
 have c0:¬ ((n - 1:Nat):Int) < 0:=by omega
 have c1:((n - 1:Nat):Int) < n:=by omega
 have t1:(n - 1)*7+7≤cs.length:=by
  have:(n - 1+1)*7=n*7:=by congr 1; omega
  omega
 generalize hn0:n - 1=l at *;by_cases hv:v=0
 ·obtain ⟨O1,m1,p1,l1,u1,e1⟩:=s210 h hb (by omega) (op:=167);obtain ⟨O2,m2,n2,k2,p2,l2,u2,e2⟩:=t187_1 p1 hb hs (by omega) (e:=n) (from':=from') (to':=n) (.inr ⟨n,rfl,by omega⟩);refine ⟨O2,min m1 m2,n2,by omega,p2.le (by omega),by omega,by omega,fun w c hw=>?_⟩;have e2:=e2 (min w m1) c (by omega);subst hv;simp (disch:=omega) [code187T2,hat,w1,c0,c1,h3,h5,e1,e2,cz]
 ·obtain ⟨O2,m2,n2,k2,p2,l2,u2,e2⟩:=t187_1 h hb hs (by omega) (e:=-1) (from':=from') (to':=n) (.inl rfl);refine ⟨O2,m2,n2,by omega,p2.le (by omega),by omega,by omega,fun w c hw=>?_⟩;have e2:=e2 w c (by omega);simp (disch:=omega) [code187T2,hat,w1,c0,c1,h3,h5,hv,e2,cz]
theorem s187 (hb:b≤tN) {j:Nat} (hs:Act tN tb tv B b dep 209 [.ptr (some (B.length,0))] j):Act tN tb tv B b dep 187 [.ptr (some (B.length,0))] (8+2*j):=fun O n k h hk=>by
 obtain ⟨hlt,hBO⟩:=h.len;obtain ⟨_,_,_,_,_,_,_,_,_,hat,_⟩:=h.at';obtain ⟨O1,m1,⟨n1,k1,p1⟩,l1,u1,e1⟩:=hs O _ _ h (by omega);obtain ⟨_,_,_,_,_,_,_,_,_,hat1,_⟩:=p1.at';obtain ⟨r2,O2,nx,g1,g2,g3,g4,g5,g6⟩:=p1.next hb (x:=3) (by decide) (by decide)
 by_cases hr:r2=1
 ·subst hr;obtain ⟨pc,pt,px,cc,ct,cx,nt,nx',bud,cs,h1,h6,h9,h7,hkw,_,_,p3⟩:=g2.put (b:=b) (x:=⟨187,0,0,[79,111,112,115],[],[],[]⟩) hb (by omega) ⟨by decide,by decide,by decide,by decide⟩;simp only [InsU.cells] at h7 p3;obtain ⟨O4,m4,p4,l4,u4,e4⟩:=s150 p3 hb (by omega) (op:=191) (nn:=0);obtain ⟨O5,m5,n5,k5,p5,l5,u5,e5⟩:=t187_2 p4 (by omega) hb hs (by omega) (from':=n);obtain ⟨m',q1,q2,q3⟩:=jf g5 (Nat.le_of_lt hlt);refine ⟨O5,min m1 (min m' (min m4 m5)),⟨n5,by omega,p5.le (by omega)⟩,by omega,by omega,fun w=>?_⟩;have e5:=fun w c hw=>e5 w c hw
  simp (disch:=omega) [av t187,code187,hat,e1,hat1,g6,-dk,h1,h7,h6,h9,hkw,q3,e4,e5,cz]
 ·obtain ⟨O4,m4,p4,l4,u4,e4⟩:=s150 g2 hb (by omega) (op:=0) (nn:=0);obtain ⟨O5,m5,n5,k5,p5,l5,u5,e5⟩:=t187_2 p4 (by omega) hb hs (by omega) (from':=n);obtain ⟨m',q1,q2,q3⟩:=jf g5 l4;refine ⟨O5,min m1 (min m' m5),⟨n5,by omega,p5.le (by omega)⟩,by omega,by omega,fun w=>?_⟩;simp (disch:=omega) [av t187,code187,hat,e1,hat1,g6,hr,natInt1,q3,e4,e5,cz]
end
end Go.Abs.Zm

namespace Go.Abs.Zm
open Go.Abs.Zd Go.Abs.Zh
variable {os O B:List AObj} {b w:Nat} {tN:Nat} {tb:List UInt8} {tv:AVal} {n k:Nat} {dep:Int}
set_option maxHeartbeats 3000000 in
theorem r152 (hb:b≤tN) (h:Ws tN tb tv B O n k dep) (hk:k+1≤100000) {v:AVal} :
  ∃ O' m,Ws tN tb tv B O' (n+1) (k+1) dep∧tN≤m∧m≤B.length∧∀ (w:Nat) (c:AExit→St→Option (AVal × Heap)),
   xK T code152R0 ⟨[(0,.val (.ptr (some (B.length,0)))),(181,.val v)],⟨O,b,w⟩⟩ (k:=⟨c⟩)=c .normal ⟨[],⟨O',b,min w m⟩⟩:=by
 obtain ⟨hlt,hBO⟩:=h.len;obtain ⟨_,_,_,_,_,_,_,_,_,hat,_⟩:=h.at';obtain ⟨r1,O1,nx1,f1,f2,f3,f4,f5,f6⟩:=h.next hb (x:=3) (by decide) (by decide)
 have hBO1:=f2.len.2;have hO1:O1.length=O.length:=f3;obtain ⟨r2,O2,nx,g1,g2,g3,g4,g5,g6⟩:=f2.next hb (x:=9) (by decide) (by decide)
 have hBO2:=g2.len.2;have hO2:O2.length=O.length:=g3.trans f3;obtain ⟨pc,pt,px,cc,ct,cx,nt,nx',bud,cs,h1,h6,h9,h7,hkw,hk1,hk2,h8⟩:=g2.put (b:=b) (x:=⟨132,r1,(r2:Int) - 4,[],[],[],[]⟩) hb (by omega) ⟨by simp,by simp,by simp,by simp⟩;have e11:=(g4 B.length (by omega)).symm.trans h1;have e0:=(f4 B.length (by omega)).symm.trans e11;obtain ⟨lw,_,_⟩:=g2.lows h1
 have hids:AVal.idsL cs=[]:=h8.codeIds (q:=O2.length+1) (o:=0) (cs:=cs) (by rw [de,if_pos rfl,if_pos (by simp; omega)]) (by
  rw [au (by omega),ak (by simp)];simp)
 have hwl1:nx1 O.length=O.length∨nx1 O.length=tN:=by rcases f5 with g | g <;> rw [g] <;> omega
 have hwl:nx O.length=O.length∨nx O.length=tN:=by rcases g5 with g | g <;> rw [g] <;> omega
 refine ⟨_,min (nx1 O.length) (min (nx O.length) B.length),h8,by omega,by omega,fun w c=>?_⟩;have hm1:min O.length B.length=B.length:=by omega
 have hm2:min tN B.length=tN:=by omega
 have hm3:min O.length tN=tN:=by omega
 simp only [InsU.cells] at h7 ⊢;rw [hO2] at h7 ⊢;have hg0:∀ X:List AObj,(O2++X)[O.length]? = X[0]?:=fun X=>by rw [← hO2,dj]
 have hg1:∀ (X:List AObj) (i:Nat),(O2++X)[O.length+i]? = X[i]?:=fun X i=>by rw [← hO2,d8]
 have hB1:∀ X:List AObj,(O2++X)[B.length]? = some (AObj.cells 6 [.ptr (some (tN,0)),.slice pc n cc,.slice pt nt ct,.slice px nx' cx,.int .i64 dep,.int .i64 bud]):=fun X=>(ag (by omega)).trans h1
 have hBn:B.length≠tN:=by omega
 cases pc with
 | none =>
  simp only [gw,kz] at h7 h9 ⊢
  rcases hwl1 with hwl1 | hwl1 <;> rcases hwl with hwl | hwl <;>
   simp (maxSteps:=3000000) (disch:=omega) [-getElem?_pos,-getElem?_neg,-List.all_eq_true,gz,gs,nltT,nltF,iltT,iltF,ileT,nleT,dg,ap,benign,again,AVal.eqb,hO2,hO1,hg0,hg1,hB1,-sget,jv,jw,jx,-dk,code152R0,e0,f6,g6,h1,e11,h7,h9,hids,hm1,hm2,hm3,hwl,hwl1]
 | some q =>
  obtain ⟨i,o⟩:=q;obtain ⟨l1,l2⟩:=lw i o rfl;have hk0:∀ X:List AObj,(O2.set i .dead++X)[O.length]? = X[0]?:=fun X=>by rw [← hO2,ak (by simp)]; simp
  have hk1:∀ (X:List AObj) (j:Nat),(O2.set i .dead++X)[O.length+j]? = X[j]?:=fun X j=>by rw [← hO2,ak (by simp)]; simp
  have hi1:¬ i=O.length+1:=by omega
  have hi2:¬ O.length+1≤i:=by omega
  have hi3:¬ O.length≤i:=by omega
  have hi4:i < O.length:=by omega
  have hi5:i < O.length+1:=by omega
  have hiB:i≠B.length:=by omega
  have hit:i≠tN:=by omega
  simp only [gw,kz] at h7 h9 ⊢
  rcases hwl1 with hwl1 | hwl1 <;> rcases hwl with hwl | hwl <;>
   simp (maxSteps:=3000000) (disch:=omega) [-getElem?_pos,-getElem?_neg,-List.all_eq_true,gz,gs,nltT,nltF,iltT,iltF,ileT,nleT,dg,ap,benign,again,AVal.eqb,hO2,hO1,hg0,hg1,hB1,-sget,jv,jw,jx,-dk,code152R0,e0,f6,g6,h1,e11,h7,h9,hids,hm1,hm2,hm3,hk0,hk1,hi1,hi2,hi3,hi4,hi5,hiB,hit,hwl,hwl1]
end Go.Abs.Zm

namespace Go.Abs.Zm
open Go.Abs.Zd Go.Abs.Zh
variable {os O B:List AObj} {b w:Nat} {tN:Nat} {tb:List UInt8} {tv:AVal} {dep:Int} {n k:Nat}
section
attribute [-simp] getElem?_pos getElem?_neg List.all_eq_true sget
attribute [local simp] gz gs nltT nltF iltT iltF ileT nleT dg jv jw jx
set_option maxHeartbeats 1000000 in
theorem sw152 (hb:b≤tN) {j J:Nat} (hJ:13≤J) (hs:dep < 3→Act tN tb tv B b dep 209 [.ptr (some (B.length,0))] j) (hj:dep < 3→9+2*j≤J) (h:Ws tN tb tv B O n k dep) (hk:k+J≤100000) {r:Nat} (hr:r < 16) :
  ∃ O' m n',n≤n'∧Ws tN tb tv B O' n' (k+J) dep∧tN≤m∧m≤B.length∧∀ (w:Nat) (c:AExit→St→Option (AVal × Heap)),
   xK T ia ⟨[(0,.val (.ptr (some (B.length,0)))),(2,.val (.int .i64 r))],⟨O,b,w⟩⟩ (k:=⟨c⟩)=c .normal ⟨[],⟨O',b,min w m⟩⟩:=by
 obtain ⟨hlt,hBO⟩:=h.len;have hK1:KK 1=5:=rfl;have hK2:KK 2=11:=rfl;have hi1:Expr tN tb tv B b dep 151 1 5:=(mw hb 1 1 (by decide) (by decide) (by decide)).1;have hi2:Expr tN tb tv B b dep 151 2 11:=(mw hb 2 2 (by decide) (by decide) (by decide)).1;have hl2:Expr tN tb tv B b dep 183 2 11:=(mw hb 2 2 (by decide) (by decide) (by decide)).2 (by decide);obtain ⟨pc,pt,px,cc,ct,cx,nt,nx',bud,hat,_⟩:=h.at';by_cases c0:bud≤0∨r < 2
 ·obtain ⟨O1,m1,⟨n1,k1,p1⟩,l1,u1,e1⟩:=hi2 O n k h (by omega);obtain ⟨_,_,_,_,_,_,_,_,_,hat1,_⟩:=p1.at';obtain ⟨r2,O2,nx,g1,g2,g3,g4,g5,g6⟩:=p1.next hb (x:=2) (by decide) (by decide)
  obtain ⟨O3,m3,p3,l3,u3,e3⟩:=s150 g2 hb (by omega) (op:=54) (nn:=1+r2);obtain ⟨m',q1,q2,q3⟩:=jf g5 l3;refine ⟨O3,min m1 m',n1+1,by omega,p3.le (by omega),by omega,by omega,fun w c=>?_⟩;by_cases c1:bud≤0
  ·simp (disch:=omega) [ia,hat,c1,e1,hat1,g6,e3,q3,cz]
  ·have c2:(r:Int) < 2:=by omega
   simp (disch:=omega) [ia,hat,c1,c2,e1,hat1,g6,e3,q3,cz]
 have c1:¬ bud≤0:=by omega
 have c2:¬ (r:Int) < 2:=by omega
 have e0:r=2∨r=3∨r=4∨r=5∨r=6∨r=7∨r=8∨(r=9∧dep < 3)∨(r=10∧dep < 3)∨(r=11∧dep < 3)∨r=12∨r=13∨r=14∨(r=9∧¬ dep < 3)∨(r=10∧¬ dep < 3)∨(r=11∧¬ dep < 3)∨r=15:=by omega
 have dflt:(∀ v,∃ O' m,Ws tN tb tv B O' (n+1) (k+1) dep∧tN≤m∧m≤B.length∧∀ (w:Nat) (c:AExit→St→Option (AVal × Heap)),
   xK T code152R0 ⟨[(0,.val (.ptr (some (B.length,0)))),(181,.val v)],⟨O,b,w⟩⟩ (k:=⟨c⟩)=c .normal ⟨[],⟨O',b,min w m⟩⟩):=fun v=>r152 hb h (by omega)
 rcases e0 with rfl | rfl | rfl | rfl | rfl | rfl | rfl | ⟨rfl,cd⟩ | ⟨rfl,cd⟩ | ⟨rfl,cd⟩ | rfl | rfl | rfl | ⟨rfl,cd⟩ | ⟨rfl,cd⟩ | ⟨rfl,cd⟩ | rfl
 ·obtain ⟨O1,m1,⟨n1,k1,p1⟩,l1,u1,e1⟩:=hi2 O n k h (by omega);obtain ⟨O2,m2,p2,l2,u2,e2⟩:=s154 p1 hb (by omega) (op:=184) (c:=[115,121,115]) (m:=[112,114,105,110,116]) (d:=[40,73,41,86]) (by decide) (by decide) (by decide);refine ⟨O2,min m1 m2,n1+1,by omega,p2.le (by omega),by omega,by omega,fun w c=>?_⟩;simp (disch:=omega) [ia,hat,c1,c2,e1,e2,cz]
 ·obtain ⟨O1,m1,⟨n1,k1,p1⟩,l1,u1,e1⟩:=hl2 O n k h (by omega);obtain ⟨O2,m2,p2,l2,u2,e2⟩:=s150 p1 hb (by omega) (op:=55) (nn:=3);refine ⟨O2,min m1 m2,n1+1,by omega,p2.le (by omega),by omega,by omega,fun w c=>?_⟩;simp (disch:=omega) [ia,hat,c1,c2,e1,e2,cz]
 ·obtain ⟨O1,m1,⟨n1,k1,p1⟩,l1,u1,e1⟩:=s184 hb O n k h (by omega);obtain ⟨O2,m2,p2,l2,u2,e2⟩:=s150 p1 hb (by omega) (op:=58) (nn:=5);refine ⟨O2,min m1 m2,n1+1,by omega,p2.le (by omega),by omega,by omega,fun w c=>?_⟩;simp (disch:=omega) [ia,hat,c1,c2,e1,e2,cz]
 ·obtain ⟨O1,m1,p1,l1,u1,e1⟩:=s150 h hb (by omega) (op:=25) (nn:=5);obtain ⟨O2,m2,⟨n2,k2,p2⟩,l2,u2,e2⟩:=hi1 O1 _ _ p1 (by omega);obtain ⟨O3,m3,p3,l3,u3,e3⟩:=s154 p2 hb (by omega) (op:=181) (c:=[65]) (m:=[102]) (d:=[73]) (by decide) (by decide) (by decide);refine ⟨O3,min m1 (min m2 m3),n2+1,by omega,p3.le (by omega),by omega,by omega,fun w c=>?_⟩;simp (disch:=omega) [ia,hat,c1,c2,e1,e2,e3,cz]
 ·obtain ⟨O1,m1,⟨n1,k1,p1⟩,l1,u1,e1⟩:=hi1 O n k h (by omega);obtain ⟨O2,m2,p2,l2,u2,e2⟩:=s154 p1 hb (by omega) (op:=179) (c:=[77,97,105,110]) (m:=[115]) (d:=[73]) (by decide) (by decide) (by decide);refine ⟨O2,min m1 m2,n1+1,by omega,p2.le (by omega),by omega,by omega,fun w c=>?_⟩;simp (disch:=omega) [ia,hat,c1,c2,e1,e2,cz]
 ·obtain ⟨O1,m1,⟨n1,k1,p1⟩,l1,u1,e1⟩:=hi1 O n k h (by omega);obtain ⟨_,_,_,_,_,_,_,_,_,hat1,_⟩:=p1.at';obtain ⟨r2,O2,nx,g1,g2,g3,g4,g5,g6⟩:=p1.next hb (x:=2) (by decide) (by decide)
  obtain ⟨O3,m3,p3,l3,u3,e3⟩:=s150 g2 hb (by omega) (op:=188) (nn:=10 - 2*r2);obtain ⟨m',q1,q2,q3⟩:=jf g5 l3;obtain ⟨O4,m4,p4,l4,u4,e4⟩:=s150 p3 hb (by omega) (op:=58) (nn:=6+r2);refine ⟨O4,min m1 (min m' m4),n1+1+1,by omega,p4.le (by omega),by omega,by omega,fun w c=>?_⟩;simp (disch:=omega) [ia,hat,c1,c2,e1,hat1,g6,e3,q3,e4,cz]
 ·obtain ⟨O1,m1,p1,l1,u1,e1⟩:=s150 h hb (by omega) (op:=25) (nn:=6);obtain ⟨O2,m2,⟨n2,k2,p2⟩,l2,u2,e2⟩:=hi1 O1 _ _ p1 (by omega);obtain ⟨O3,m3,⟨n3,k3,p3⟩,l3,u3,e3⟩:=hi1 O2 _ _ p2 (by omega);obtain ⟨O4,m4,p4,l4,u4,e4⟩:=s150 p3 hb (by omega) (op:=79) (nn:=0);refine ⟨O4,min m1 (min m2 (min m3 m4)),n3+1,by omega,p4.le (by omega),by omega,by omega,fun w c=>?_⟩;simp (disch:=omega) [ia,hat,c1,c2,e1,e2,e3,e4,cz]
 ·have hjj:=hj cd;obtain ⟨O1,m1,⟨n1,k1,p1⟩,l1,u1,e1⟩:=s185 hb (hs cd) O n k h (by omega);refine ⟨O1,m1,n1,k1,p1.le (by omega),l1,u1,fun w c=>?_⟩;simp (disch:=omega) [ia,hat,c1,c2,cd,e1]
 ·have hjj:=hj cd;obtain ⟨O1,m1,⟨n1,k1,p1⟩,l1,u1,e1⟩:=s186 hb (hs cd) O n k h (by omega);refine ⟨O1,m1,n1,k1,p1.le (by omega),l1,u1,fun w c=>?_⟩;simp (disch:=omega) [ia,hat,c1,c2,cd,e1]
 ·have hjj:=hj cd;obtain ⟨O1,m1,⟨n1,k1,p1⟩,l1,u1,e1⟩:=s187 hb (hs cd) O n k h (by omega);refine ⟨O1,m1,n1,k1,p1.le (by omega),l1,u1,fun w c=>?_⟩;simp (disch:=omega) [ia,hat,c1,c2,cd,e1]
 ·obtain ⟨O1,m1,⟨n1,k1,p1⟩,l1,u1,e1⟩:=s188 hb O n k h (by omega);refine ⟨O1,m1,n1,k1,p1.le (by omega),l1,u1,fun w c=>?_⟩;simp (disch:=omega) [ia,hat,c1,c2,e1]
 ·obtain ⟨pc',pt',px',cc',ct',cx',nt',nx2,bud',cs,h1,h6,h9,h7,hkw,_,_,h8⟩:=h.put (b:=b) (x:=⟨18,0,0,[],[],[83],[104,105]⟩) hb (by omega) ⟨by decide,by decide,by decide,by decide⟩;simp only [InsU.cells] at h7 h8;have e:=hat.symm.trans h1;simp only [bt,AObj.cells.injEq,km,AVal.slice.injEq,AVal.int.injEq,true_and,and_true] at e;obtain ⟨⟨rfl,rfl⟩,⟨rfl,rfl,rfl⟩,⟨rfl,rfl,rfl⟩,rfl⟩:=e;obtain ⟨O4,m4,p4,l4,u4,e4⟩:=s150 h8 hb (by omega) (op:=58) (nn:=7);refine ⟨O4,min B.length m4,n+1+1,by omega,p4.le (by omega),by omega,by omega,fun w c=>?_⟩;simp (disch:=omega) [ia,hat,c1,c2,-dk,h7,h6,h9,hkw,e4,InsU.cells,cz]
 ·obtain ⟨O1,m1,p1,l1,u1,e1⟩:=s150 h hb (by omega) (op:=25) (nn:=7);obtain ⟨O2,m2,p2,l2,u2,e2⟩:=s154 p1 hb (by omega) (op:=184) (c:=[115,121,115]) (m:=[112,114,105,110,116,84,101,120,116]) (d:=[40,91,66,41,86]) (by decide) (by decide) (by decide);refine ⟨O2,min m1 m2,n+1+1,by omega,p2.le (by omega),by omega,by omega,fun w c=>?_⟩;simp (disch:=omega) [ia,hat,c1,c2,e1,e2,cz]
 all_goals
  obtain ⟨O2,m2,p2,l2,u2,e2⟩:=dflt (.bool false);refine ⟨O2,m2,n+1,by omega,p2.le (by omega),l2,u2,fun w c=>?_⟩
 ·simp (disch:=omega) [ia,hat,c1,c2,cd,e2]
 ·simp (disch:=omega) [ia,hat,c1,c2,cd,e2]
 ·simp (disch:=omega) [ia,hat,c1,c2,cd,e2]
 ·simp (disch:=omega) [ia,hat,c1,c2,e2]
end
def JJ:Nat→Nat
 | 0=>13
 | r+1=>6*JJ r+13
theorem s152_of (hb:b≤tN) {j J:Nat} (hJ:13≤J) (hs:dep < 3→Act tN tb tv B b dep 209 [.ptr (some (B.length,0))] j) (hj:dep < 3→9+2*j≤J):Act tN tb tv B b dep 152 [.ptr (some (B.length,0))] J:=fun O n k h hk=>by
 obtain ⟨hlt,hBO⟩:=h.len;obtain ⟨pc,pt,px,cc,ct,cx,nt,nx',bud,hat,hset⟩:=h.at';have h1:=hset dep (IntKind.i64.wrap (bud - 1));have hset2:∀ y,(O.set B.length y)[B.length]? = some y:=fun y=>by rw [de,if_pos rfl,if_pos hBO]
 obtain ⟨r,O2,nx,g1,g2,g3,g4,g5,g6⟩:=h1.next hb (x:=16) (by decide) (by decide)
 obtain ⟨O3,m3,n3,q3,p3,l3,u3,e3⟩:=sw152 hb hJ hs hj g2 hk (r:=r) (by omega);obtain ⟨m',q4,q5,q6⟩:=jf g5 l3;have hmm2:min B.length m'=m':=by omega
 refine ⟨O3,m',⟨n3,q3,p3⟩,q4,by omega,fun w=>?_⟩;simp (disch:=omega) [-getElem?_pos,-getElem?_neg,-List.all_eq_true,gz,gs,nltT,nltF,iltT,iltF,ileT,nleT,dg,-sget,jv,jw,jx,av t152,code152,hat,hset2,g6,e3,q6,hmm2]
theorem s152 (hb:b≤tN):∀ (r:Nat) (dep:Int),0≤dep→dep≤3→3 - dep≤r→Act tN tb tv B b dep 152 [.ptr (some (B.length,0))] (JJ r)
 | 0,dep,h0,h1,h2=>s152_of (j:=0) hb (ai _) (fun h=>by omega) (fun h=>by omega)
 | r+1,dep,h0,h1,h2=>s152_of (j:=3*JJ r) hb (by simp only [JJ]; omega) (fun h=>s209 hb h0 (by omega) (s152 hb r (dep+1) (by omega) (by omega) (by omega))) (fun h=>by simp only [JJ]; omega)
end Go.Abs.Zm

namespace Go.Abs
def renA (f:Nat→Nat):Option (Nat × Nat)→Option (Nat × Nat)
 | none=>none
 | some (i,o)=>some (f i,o)
theorem zbk (f:Nat→Nat) (a:Option (Nat × Nat)) (n:Nat) (c:Option Nat):(AVal.slice a n c).ren f = .slice (renA f a) n c:=by
 cases a with
 | none=>simp [AVal.ren,renA]
 | some p=>obtain ⟨i,o⟩:=p; simp [AVal.ren,renA]
theorem xh (f:Nat→Nat):∀ l:List AVal,AVal.renL f l=l.map (AVal.ren f)
 | []=>rfl
 | a :: l=>by simp only [AVal.renL,b0,xh f l]
theorem pv:∀ l:List AVal,AVal.idsL l=l.flatMap AVal.ids
 | []=>rfl
 | a :: l=>by simp only [AVal.idsL,cj,pv l]
structure Moves (f:Nat→Nat) (I:Nat→Prop) (n:Nat) (O O':List AObj):Prop where
 at':∀ i obj,I i→O[i]? = some obj→O'[f i]? = some (obj.ren f)
 cl:∀ i obj,I i→O[i]? = some obj→∀ j ∈ obj.ids,n≤j→I j
 up:∀ i,n≤i→n≤f i
section
variable {f:Nat→Nat} {I:Nat→Prop} {n:Nat} {O O':List AObj}
def over (n:Nat) (a:Option (Nat × Nat)):Prop:=∀ i o,a=some (i,o)→n≤i
def inI (I:Nat→Prop) (a:Option (Nat × Nat)):Prop:=∀ i o,a=some (i,o)→I i
theorem Moves.row (h:Moves f I n O O') {α β:Type} {e:Nat} {F:α→List AVal} {F':β→List AVal} {g:α→β} {L:List α} {a:Option (Nat × Nat)} (hR:Row O e F L a) (ha:inI I a) (hg:∀ x,AVal.renL f (F x)=F' (g x)):Row O' e F' (L.map g) (renA f a) :=
 ⟨fun hne=>by
  have hL:L≠[]:=fun e=>hne (by rw [e]; rfl)
  obtain ⟨b,o,cs,h1,h2,h3⟩:=hR.at' hL;subst h1;refine ⟨f b,o,AVal.renL f cs,rfl,h.at' b _ (ha b o rfl) h2,fun j y hy=>?_⟩;rw [db] at hy;cases hx:L[j]? with
  | none=>rw [hx] at hy; cases hy
  | some x =>
   rw [hx] at hy;cases hy;obtain ⟨h4,h5⟩:=h3 j x hx;refine ⟨by rw [xh,ge]; exact h4,?_⟩;rw [← hg x,← h5,xh,xh,List.map_take,List.map_drop]⟩
theorem Moves.ids (h:Moves f I n O O') {α:Type} {e:Nat} {F:α→List AVal} {L:List α} {a:Option (Nat × Nat)} (hR:Row O e F L a) (ha:inI I a) {x:α} (hx:x ∈ L):∀ j ∈ AVal.idsL (F x),n≤j→I j:=by intro j hj hn;obtain ⟨k,hk⟩:=List.mem_iff_getElem?.1 hx;obtain ⟨b,o,cs,h1,h2,h3⟩:=hR.at' (rg hk);subst h1;refine h.cl b _ (ha b o rfl) h2 j ?_ hn;rw [← (h3 k x hk).2,pv,fe] at hj;obtain ⟨v,hv,hj⟩:=hj;show j ∈ AVal.idsL cs;rw [pv,fe];exact ⟨v,List.mem_of_mem_drop (List.mem_of_mem_take hv),hj⟩
theorem Moves.under (h:Moves f I n O O') {a:Option (Nat × Nat)} (ha:inI I a) (hu:under O.length a):under O'.length (renA f a):=by
 cases a with
 | none=>exact fun i o e=>by cases e
 | some p =>
  obtain ⟨i,o⟩:=p;intro j q e;simp only [renA,bt,el] at e;obtain ⟨rfl,rfl⟩:=e;have hi:=hu i o rfl;exact aj (h.at' i _ (ha i o rfl) (ah hi))
theorem vz {a:Option (Nat × Nat)} {m:Nat} {c:Option Nat} {l:List AVal} (hl:∀ j ∈ AVal.idsL l,n≤j→I j) (hm:AVal.slice a m c ∈ l) (ho:over n a):inI I a:=fun i o e=>by subst e;refine hl i ?_ (ho i o rfl);rw [pv,fe];exact ⟨_,hm,by simp [AVal.ids]⟩
def MapU.ren (f:Nat→Nat) (x:MapU):MapU:={ x with la:=renA f x.la,sa:=renA f x.sa }
def MethU.ren (f:Nat→Nat) (m:MethU):MethU:={ m with ca:=renA f m.ca,ta:=renA f m.ta,maps:=m.maps.map (MapU.ren f),xa:=renA f m.xa }
def UnitU.ren (f:Nat→Nat) (u:UnitU):UnitU:={ u with fa:=renA f u.fa,meths:=u.meths.map (MethU.ren f),ma:=renA f u.ma }
theorem ren_field (x:FieldU):AVal.renL f x.cells=x.cells:=by simp [FieldU.cells,AVal.renL,AVal.ren]
theorem ren_ins (x:InsU):AVal.renL f x.cells=x.cells:=by simp [InsU.cells,AVal.renL,AVal.ren]
theorem ren_trap (x:TrapU):AVal.renL f x.cells=x.cells:=by simp [TrapU.cells,AVal.renL,AVal.ren]
theorem xi (x:Str):AVal.renL f (dt x)=dt x:=by simp [dt,AVal.renL,AVal.ren]
theorem ren_map (x:MapU):AVal.renL f x.cells=(x.ren f).cells:=by simp [MapU.cells,AVal.renL,zbk,MapU.ren]
theorem ren_meth (m:MethU):AVal.renL f m.cells=(m.ren f).cells:=by simp [MethU.cells,AVal.renL,zbk,MethU.ren]
theorem ren_unitU (u:UnitU):AVal.renL f u.cells=(u.ren f).cells:=by simp [UnitU.cells,AVal.renL,zbk,UnitU.ren]
structure MapU.over (n:Nat) (x:MapU):Prop where
 l:Go.Abs.over n x.la
 s:Go.Abs.over n x.sa
structure MethU.over (n:Nat) (m:MethU):Prop where
 c:Go.Abs.over n m.ca
 t:Go.Abs.over n m.ta
 x:Go.Abs.over n m.xa
 xs:∀ x ∈ m.maps,x.over n
structure UnitU.over (n:Nat) (u:UnitU):Prop where
 f:Go.Abs.over n u.fa
 m:Go.Abs.over n u.ma
 ms:∀ m ∈ u.meths,m.over n
theorem qb {a:Option (Nat × Nat)} (hf:∀ i,n≤i→n≤f i) (h:Go.Abs.over n a):Go.Abs.over n (renA f a):=by
 cases a with
 | none=>exact fun i o e=>by cases e
 | some p =>
  obtain ⟨i,o⟩:=p;intro j q e;simp only [renA,bt,el] at e;rw [← e.1]; exact hf i (h i o rfl)
theorem MapU.over.ren {x:MapU} (hf:∀ i,n≤i→n≤f i) (h:x.over n):(x.ren f).over n:=⟨qb hf h.l,qb hf h.s⟩
theorem MethU.over.ren {m:MethU} (hf:∀ i,n≤i→n≤f i) (h:m.over n):(m.ren f).over n:=⟨qb hf h.c,qb hf h.t,qb hf h.x,fun x hx=>by obtain ⟨y,hy,rfl⟩:=ep.1 hx;exact (h.xs y hy).ren hf⟩
theorem UnitU.over.ren {u:UnitU} (hf:∀ i,n≤i→n≤f i) (h:u.over n):(u.ren f).over n:=⟨qb hf h.f,qb hf h.m,fun x hx=>by obtain ⟨y,hy,rfl⟩:=ep.1 hx;exact (h.ms y hy).ren hf⟩
theorem MethU.fits.ren {m:MethU} (h:m.fits):(m.ren f).fits:=⟨h.name,h.desc,h.c,h.cs,h.t,h.ts,by simpa [MethU.ren] using h.x,fun x hx=>by obtain ⟨y,hy,rfl⟩:=ep.1 hx;have:=h.xs y hy;exact ⟨this.l,this.s,this.ls,this.ss⟩⟩
theorem UnitU.cap.ren {u:UnitU} (h:u.cap):(u.ren f).cap:=⟨h.f,by simpa [UnitU.ren] using h.m⟩
theorem UnitU.fits.ren {u:UnitU} (h:u.fits):(u.ren f).fits:=⟨h.name,h.super,h.f,h.fs,by simpa [UnitU.ren] using h.m,fun x hx=>by obtain ⟨y,hy,rfl⟩:=ep.1 hx;exact (h.ms y hy).ren,h.cap.ren⟩
theorem MapU.ok.move (h:Moves f I n O O') {x:MapU} (hx:x.ok O) (ho:x.over n) (hI:∀ j ∈ AVal.idsL x.cells,n≤j→I j):(x.ren f).ok O':=by
 have hl:inI I x.la:=vz (m:=x.locals.length) (c:=x.lc) hI (by simp [MapU.cells]) ho.l;have hs:inI I x.sa:=vz (m:=x.stack.length) (c:=x.sc) hI (by simp [MapU.cells]) ho.s;have h1:=h.row (F':=dt) (g:=id) hx.l hl fun y=>xi y
 have h2:=h.row (F':=dt) (g:=id) hx.s hs fun y=>xi y
 rw [List.map_id] at h1 h2;exact ⟨h1,hx.ln,h.under hl hx.lu,h2,hx.sn,h.under hs hx.su,hx.ls⟩
theorem MethU.ok.move (h:Moves f I n O O') {m:MethU} (hx:m.ok O) (ho:m.over n) (hI:∀ j ∈ AVal.idsL m.cells,n≤j→I j):(m.ren f).ok O':=by
 have hc:inI I m.ca:=vz (m:=m.code.length) (c:=m.cc) hI (by simp [MethU.cells]) ho.c;have ht:inI I m.ta:=vz (m:=m.traps.length) (c:=m.tc) hI (by simp [MethU.cells]) ho.t;have hm:inI I m.xa:=vz (m:=m.maps.length) (c:=m.xc) hI (by simp [MethU.cells]) ho.x;have h1:=h.row (F':=InsU.cells) (g:=id) hx.c hc fun y=>ren_ins y
 have h2:=h.row (F':=TrapU.cells) (g:=id) hx.t ht fun y=>ren_trap y
 have h3:=h.row (F':=MapU.cells) (g:=MapU.ren f) hx.x hm fun y=>ren_map y
 rw [List.map_id] at h1 h2;refine ⟨hx.name,hx.desc,h1,hx.cn,h.under hc hx.cu,hx.cok,h2,hx.tn,h.under ht hx.tu,hx.tok,h3,by simpa [MethU.ren] using hx.xn,h.under hm hx.xu,fun x hxm=>?_⟩;obtain ⟨y,hy,rfl⟩:=ep.1 hxm;exact (hx.xok y hy).move h (ho.xs y hy) (h.ids hx.x hm hy)
theorem UnitU.ok.move (h:Moves f I n O O') {u:UnitU} (hx:u.ok O) (ho:u.over n) (hI:∀ j ∈ AVal.idsL u.cells,n≤j→I j):(u.ren f).ok O':=by
 have hf:inI I u.fa:=vz (m:=u.fields.length) (c:=u.fc) hI (by simp [UnitU.cells]) ho.f;have hm:inI I u.ma:=vz (m:=u.meths.length) (c:=u.mc) hI (by simp [UnitU.cells]) ho.m;have h1:=h.row (F':=FieldU.cells) (g:=id) hx.f hf fun y=>ren_field y
 have h3:=h.row (F':=MethU.cells) (g:=MethU.ren f) hx.m hm fun y=>ren_meth y
 rw [List.map_id] at h1;refine ⟨hx.name,hx.super,h1,hx.fn,h.under hf hx.fu,hx.fok,h3,by simpa [UnitU.ren] using hx.mn,h.under hm hx.mu,fun x hxm=>?_⟩;obtain ⟨y,hy,rfl⟩:=ep.1 hxm;exact (hx.mok y hy).move h (ho.ms y hy) (h.ids hx.m hm hy)
theorem zbl {i:Nat}:∀ {k:List Nat},i ∈ k→idxIn i k < k.length∧k[idxIn i k]? = some i
 | j :: k,h=>by
  by_cases e:j=i
  ·simp [idxIn,e]
  ·have:=zbl (k:=k) ((cg.1 h).resolve_left fun x=>e x.symm);simp only [idxIn,e,if_false,bg,jk];exact ⟨by omega,this.2⟩
theorem uh {h:Heap} {n0:Nat}:∀ (fu:Nat) (l acc:List Nat),(∀ i ∈ acc,n0≤i)→∀ i ∈ reach h n0 fu l acc,n0≤i
 | 0,l,acc,ha=>ha
 | _+1,[],acc,ha=>ha
 | fu+1,i :: r,acc,ha=>by
  unfold reach;split
  ·exact uh fu r acc ha
  ·split
   ·exact uh fu r acc ha
   ·exact uh fu _ _ fun j hj=>by
     rcases bz.1 hj with hj | hj
     ·exact ha j hj
     ·rw [ef.1 hj]; omega
theorem tf {h0 h:Heap} {v:AVal} (hv:v.under h0.size=false) :
  (∃ w,dx h0 v h=(v,⟨h.objs,h.base,w⟩)∧(w=min h0.wmin h.wmin∨(w=h0.wmin∧h0.size≤h.wmin))) ∨
  (h0.size≤h.wmin∧∃ f I X,dx h0 v h=(v.ren f,⟨h0.objs++X,h0.base,h0.wmin⟩)∧Moves f I h0.size h.objs (h0.objs++X)∧(∀ j ∈ v.ids,h0.size≤j→I j)):=by
 unfold dx;by_cases hw:h.wmin < h0.size
 ·rw [if_pos hw]; exact .inl ⟨_,rfl,.inl rfl⟩
 ·rw [if_neg hw,hv];simp only [am,if_false];generalize hk:reach h h0.size 1000 v.ids []=k;have hge:∀ i ∈ k,h0.size≤i:=by rw [← hk]; exact uh _ _ _ (by simp)
  split
  ·rename_i hok;refine .inr ⟨by omega,fun i=>if i < h0.size then i else h0.size+idxIn i k,fun i=>i ∈ k,_,rfl,⟨fun i obj hi ho=>?_,fun i obj hi ho j hj hn=>?_,fun i hi=>?_⟩,fun j hj hn=>?_⟩
   ·have h1:=hge i hi;obtain ⟨h2,h3⟩:=zbl hi;have h4:¬ i < h0.size:=by omega
    simp only [if_neg h4];have h5:h0.size=h0.objs.length:=rfl;rw [h5,ak (by omega),pn,db,h3];have h6:h.get i=some obj:=ho;simp only [cf,h6,cr]
   ·rw [al] at hok;have h6:h.get i=some obj:=ho;have:=hok j (iw _ (fe.2 ⟨i,hi,by rw [h6]; exact hj⟩));simp only [et,decide_eq_true_eq] at this;rcases this with h7 | h7
    ·omega
    ·simpa using h7
   ·show h0.size≤if i < h0.size then i else h0.size+idxIn i k
    rw [if_neg (by omega)]; omega
   ·rw [al] at hok;have:=hok j (gh _ hj);simp only [et,decide_eq_true_eq] at this;rcases this with h7 | h7
    ·omega
    ·simpa using h7
  ·exact .inl ⟨_,rfl,.inr ⟨rfl,by omega⟩⟩
end
end Go.Abs

namespace Go.Abs.Zm
open Go.Abs.Zd Go.Abs.Zh
variable {os O B:List AObj} {b w:Nat} {tN:Nat} {tb:List UInt8} {tv:AVal} {dep:Int} {n k:Nat}
theorem Ws.start {p:Nat} (ht:Tape O tN tb tv p) (hv:TapeV O tN tb tv):Ws tN tb tv O (O++[.cells 6 [.ptr (some (tN,0)),.slice none 0 (some 0),.slice none 0 (some 0),.slice none 0 (some 0),.int .i64 0,.int .i64 60]]) 0 0 0:=by
 have hlt:=aj ht.at';refine ⟨none,none,none,some 0,some 0,some 0,[],[],[],60,?_,rfl,ai _,ai _,ai _⟩;constructor
 ·intro i hi _; rw [ag hi]
 ·exact ⟨p,by rw [ag hlt]; exact ht.at',ht.le,ht.small⟩
 ·exact hv
 ·exact hlt
 ·rw [dj]; rfl
 ·exact ⟨fun _ _ e=>(by cases e),fun _=>⟨rfl,rfl⟩⟩
 ·exact ⟨fun _ _ e=>(by cases e),fun _=>⟨rfl,rfl⟩⟩
 ·exact ⟨fun _ _ e=>(by cases e),fun _=>⟨rfl,rfl⟩⟩
 ·exact fun _ _ _ e=>by cases e
 ·exact fun _ _ _ e=>by cases e
 ·exact fun _ _ _ e=>by cases e
 ·exact fun _ h=>by cases h
 ·exact fun _ h=>by cases h
 ·exact fun _ h=>by cases h
section
attribute [-simp] getElem?_pos getElem?_neg List.all_eq_true sget
attribute [local simp] gz gs nltT nltF iltT iltF ileT nleT dg jv jw jx
theorem l101 {j:Nat} {v2:AVal} {v8:List AVal} (hs:Act tN tb tv B b dep 152 [.ptr (some (B.length,0))] j):∀ (i:Nat) (O:List AObj) (n k:Nat),i≤6→Ws tN tb tv B O n k dep→k+i*j≤100000 →
  ∃ O' m n',n≤n'∧Ws tN tb tv B O' n' (k+i*j) dep∧tN≤m∧m≤B.length∧∀ (w:Nat) (c:AExit→St→Option (AVal × Heap)),w≤B.length →
   xK T (.loop code101L0) ⟨[(2,.val v2),(8,.var v8),(9,.val (.ptr (some (B.length,0)))),(12,.val (.int .i64 i))],⟨O,b,w⟩⟩ (k:=⟨c⟩)=c (.exit 2) ⟨[(2,.val v2),(8,.var v8),(9,.val (.ptr (some (B.length,0))))],⟨O',b,min w m⟩⟩
 | 0,O,n,k,_,h,hk=>by
  obtain ⟨hlt,hBO⟩:=h.len;refine ⟨O,B.length,n,ai _,by simpa using h,by omega,ai _,fun w c hw=>?_⟩;rw [ce];have hmm:min w B.length=w:=by omega
  simp (disch:=omega) [code101L0,hmm]
 | i+1,O,n,k,hi,h,hk=>by
  have hm:(i+1)*j=j+i*j:=by rw [gj,Nat.one_mul,zp]
  obtain ⟨O1,m1,⟨n1,q1,p1⟩,l1,u1,e1⟩:=hs O n k h (by omega);obtain ⟨O2,m2,n2,q2,p2,l2,u2,e2⟩:=l101 (v2:=v2) (v8:=v8) hs i O1 n1 (k+j) (by omega) p1 (by omega);have ek:k+j+i*j=k+(i+1)*j:=by omega
  rw [ek] at p2;refine ⟨O2,min m1 m2,n2,by omega,p2,by omega,by omega,fun w c hw=>?_⟩;have e2:=e2 (min w m1) c (by omega);rw [ce];have c1:(0:Int) < (i:Int)+1:=by omega
  generalize ACode.loop code101L0=L at e2 ⊢;simp (disch:=omega) [code101L0,e1,e2,c1,cz]
end
def Keep1 (O O':List AObj):Prop:=∀ (q:Nat) (cs:List AVal),O[q]? = some (.cells 1 cs)→O'[q]? = some (.cells 1 cs)
section
attribute [-simp] getElem?_pos getElem?_neg List.all_eq_true
attribute [local simp] gz gs nltT nltF iltT iltF ileT nleT dg
theorem s150k (h:Ws tN tb tv B O n k dep) (hb:b≤tN) (hk:k≤100000) {op nn:Int} :
  Did tN tb tv B b 150 [.ptr (some (B.length,0)),.int .u8 op,.int .i64 nn] (.tuple []) O fun O'=>Ws tN tb tv B O' (n+1) (k+1) dep∧Keep1 O O':=by
 obtain ⟨pc,pt,px,cc,ct,cx,nt,nx,bud,cs,h1,h2,h3,h4,h5,h6,h7,h8⟩:=h.code (x:=⟨op,nn,0,[],[],[],[]⟩) hb hk ⟨by simp,by simp,by simp,by simp⟩
 have hkeep:Keep1 O ((gw pc O++[AObj.cells 7 (InsU.cells ⟨op,nn,0,[],[],[],[]⟩),AObj.cells 7 cs]).set B.length (.cells 6 [.ptr (some (tN,0)),.slice (some (O.length+1,0)) (n+1) none,.slice pt nt ct,.slice px nx cx,.int .i64 dep,.int .i64 bud])):=fun q cs' hq=>by
  have hql:=aj hq;have hne:B.length≠q:=fun e=>by rw [← e,h1] at hq; simp at hq
  rw [au hne,ag (by simpa using hql),lz fun o e=>?_]
  ·exact hq
  ·obtain ⟨pc',_,_,_,_,_,C,_,_,_,hW,_⟩:=h.ex;have e1:=h1.symm.trans hW.wr;simp only [wrO,bt,AObj.cells.injEq,km,AVal.slice.injEq,true_and,and_true] at e1;obtain ⟨⟨e2,_⟩,_⟩:=e1;have:=(hW.c.some q o (by rw [← e2]; exact e)).2.2.2;rw [hq] at this; simp at this
 refine ⟨_,B.length,⟨h8,hkeep⟩,by omega,ai _,fun w=>?_⟩;have hkw:=h5 O.length (by omega);have h9:∀ X,(gw pc O++X)[B.length]? = _:=fun X=>(ag (l₂:=X) (by simpa using h3)).trans h6
 simp only [InsU.cells] at h7;simp (disch:=omega) [av t150,code150,-dk,h1,h7,h6,h9,hkw,InsU.cells]
theorem s153k (h:Ws tN tb tv B O n k dep) (hb:b≤tN) (hk:k≤100000) {x:Int} (hx:-100≤x) (hx2:x≤200) :
  Did tN tb tv B b 153 [.ptr (some (B.length,0)),.int .i64 x] (.tuple []) O fun O'=>Ws tN tb tv B O' (n+1) (k+1) dep∧Keep1 O O':=by
 obtain ⟨_,hBO⟩:=h.len;have c5:-128≤x:=by omega
 have c6:-32768≤x:=by omega
 have c7:x < 32768:=by omega
 have c8:IntKind.i64.wrap (3+x)=3+x:=dg (by omega);by_cases c3:-1≤x∧x≤5
 ·obtain ⟨c1,c2⟩:=c3;obtain ⟨O1,m1,p1,l1,u1,e1⟩:=s150k h hb hk (op:=IntKind.u8.wrap (3+x)) (nn:=0);refine ⟨O1,m1,p1,l1,u1,fun w=>?_⟩;simp (disch:=omega) [av t153,code153,e1,c1,c2,c8]
 ·by_cases c4:x < 128
  ·obtain ⟨O1,m1,p1,l1,u1,e1⟩:=s150k h hb hk (op:=16) (nn:=x);refine ⟨O1,m1,p1,l1,u1,fun w=>?_⟩;by_cases c1:-1≤x
   ·have c2:¬ x≤5:=fun e=>c3 ⟨c1,e⟩
    simp (disch:=omega) [av t153,code153,e1,c1,c2,c4,c5]
   ·simp (disch:=omega) [av t153,code153,e1,c1,c4,c5]
  ·obtain ⟨O1,m1,p1,l1,u1,e1⟩:=s150k h hb hk (op:=17) (nn:=x);refine ⟨O1,m1,p1,l1,u1,fun w=>?_⟩;have c1:-1≤x:=by omega
   have c2:¬ x≤5:=by omega
   simp (disch:=omega) [av t153,code153,e1,c1,c2,c4,c5,c6,c7]
end
def rowT:List AVal:=[.int .i64 1,.int .i64 2]
section
attribute [-simp] getElem?_pos getElem?_neg List.all_eq_true sget
attribute [local simp] gz gs nltT nltF iltT iltF ileT nleT dg jv jw jx
theorem l101b (hb:b≤tN) {q:Nat} {v2 v3:AVal} {v8:List AVal} (hq:B.length < q):∀ (j i:Nat) (O:List AObj) (n k:Nat),i+j=2→O[q]? = some (.cells 1 rowT)→Ws tN tb tv B O n k dep→k+2*j≤100000 →
  ∃ O' m n',n≤n'∧Ws tN tb tv B O' n' (k+2*j) dep∧tN≤m∧m≤B.length∧∀ (w:Nat) (c:AExit→St→Option (AVal × Heap)),w≤B.length∨0 < j →
   xK T (.loop code101L1) ⟨[(0,.val (.ptr (some (tN,0)))),(2,.val v2),(3,.val v3),(8,.var v8),(9,.val (.ptr (some (B.length,0)))),(43,.val (.slice (some (q,0)) 2 (some 2))),(44,.val (.int .i64 2)),(45,.val (.int .i64 i))],⟨O,b,w⟩⟩ (k:=⟨c⟩) =
    c (.exit 0) ⟨[(0,.val (.ptr (some (tN,0)))),(2,.val v2),(3,.val v3),(8,.var v8),(9,.val (.ptr (some (B.length,0))))],⟨O',b,min w m⟩⟩
 | 0,i,O,n,k,hi,hO,h,hk=>by
  obtain ⟨hlt,hBO⟩:=h.len;obtain rfl:i=2:=by omega
  refine ⟨O,B.length,n,ai _,by simpa using h,by omega,ai _,fun w c hw=>?_⟩;have hmm:min w B.length=w:=by omega
  rw [ce];simp (disch:=omega) [code101L1,hmm]
 | j+1,i,O,n,k,hi,hO,h,hk=>by
  obtain ⟨hlt,hBO⟩:=h.len
  obtain ⟨y,hy⟩:∃ y,rowT[i]? = some (.int .i64 y):=by
   have:i=0∨i=1:=by omega
   rcases this with rfl | rfl <;> exact ⟨_,rfl⟩
  obtain ⟨r2,O1,nx,g1,g2,g3,g4,g5,g6⟩:=h.next hb (x:=4) (by decide) (by decide)
  obtain ⟨O2,m2,⟨p2,k2⟩,l2,u2,e2⟩:=s153k g2 hb (by omega) (x:=r2) (by omega) (by omega);obtain ⟨m',q1,q2,q3⟩:=jf g5 l2;obtain ⟨O3,m3,⟨p3,k3⟩,l3,u3,e3⟩:=s150k p2 hb (by omega) (op:=54) (nn:=y);have hO3:O3[q]? = some (.cells 1 rowT):=k3 q _ (k2 q _ (by rw [g4 q (by omega)]; exact hO));obtain ⟨O4,m4,n4,q4,p4,l4,u4,e4⟩:=l101b (v2:=v2) (v3:=v3) (v8:=v8) hb hq j (i+1) O3 (n+1+1) (k+1+1) (by omega) hO3 p3 (by omega);refine ⟨O4,min m' (min m3 m4),n4,by omega,p4.le (by omega),by omega,by omega,fun w c hw=>?_⟩;have e4:=e4 (min w (min m' m3)) c (.inl (by omega));have e5:((i+1:Nat):Int)=(i:Int)+1:=by omega
  have c1:(i:Int) < 2:=by omega
  have c2:((i:Nat):Int)+1≤9223372036854775807:=by omega
  rw [e5] at e4;rw [ce];have hrl:rowT.length=2:=rfl;generalize ACode.loop code101L1=L at e4 ⊢;generalize rowT=R at *;simp (disch:=omega) [code101L1,c1,hO,hy,hrl,g6,e2,q3,e3,e4,cz]
end
end Go.Abs.Zm

namespace Go.Abs.Zm
open Go.Abs.Zd Go.Abs.Zh
variable {os O B:List AObj} {b w:Nat} {tN:Nat} {tb:List UInt8} {tv:AVal} {dep:Int} {n k:Nat} {pc pt px:Option (Nat × Nat)} {cc ct cx:Option Nat} {C:List InsU} {S:List TrapU} {M:List MapU} {bud:Int}
def descII:Str:=[40,73,41,73]
structure Made (O:List AObj) (tN:Nat) (tb:List UInt8) (tv:AVal) (st:Bool) (nm:Str) (O':List AObj) (m:MethU):Prop where
 st:m.st=st
 name:m.name=nm
 desc:m.desc=descII
 ok:m.ok O'
 over:m.over O.length
 fits:m.fits
 keep:∀ i,i < O.length→i≠tN→O'[i]? = O[i]?
 tape:∃ p,Tape O' tN tb tv p
 traps:∀ x ∈ m.traps,x.cls ∈ classesT
theorem gy {x:Nat} (h:x≤100):x≤big:=by show x≤9223372036854775807; omega
theorem fz {x:Nat} (h:x≤100000):x≤gn:=by show x≤140737488351232; omega
theorem cls_short {s:Str} (h:s ∈ classesT):s.length≤100:=by
 have:∀ t ∈ classesT,t.length≤100:=by decide
 exact this s h
theorem Wr.meth (h:Wr tN tb tv B O pc pt px cc ct cx C S M dep bud) (hc:C.length≤100000) (hS:S.length≤100000) (hM:M.length≤100000) {nm:Str} (hn:nm.length≤100) {st:Bool} {a l:Int} :
  Made B tN tb tv st nm O ⟨st,nm,descII,a,l,C,pc,cc,S,pt,ct,M,px,cx⟩ where
 st:=rfl
 name:=rfl
 desc:=rfl
 ok:=⟨gy hn,(show descII.length≤big by decide),Own.row (f:=InsU.cells) (fun _=>rfl) h.c,by show C.length≤9223372036854775807; omega,fun i o e=>aj (h.c.some i o e).2.2.2,fun x hx=>⟨gy (h.cok x hx).cls,gy (h.cok x hx).name,gy (h.cok x hx).desc,gy (h.cok x hx).text⟩,
  Own.row (f:=TrapU.cells) (fun _=>rfl) h.s,by show S.length≤9223372036854775807; omega,fun i o e=>aj (h.s.some i o e).2.2.2,fun x hx=>gy (cls_short (h.sok x hx)),
  Own.row (f:=MapU.cells) (fun _=>rfl) h.m,by show M.length≤9223372036854775807; omega,fun i o e=>aj (h.m.some i o e).2.2.2,fun x hx=>by
   obtain ⟨h1,h2⟩:=h.mok x hx
   exact ⟨h1.row,gy h1.len,fun i o e=>(h1.at' i o e).2.1,h2.row,gy h2.len,fun i o e=>(h2.at' i o e).2.1,fun t ht=>by
    rcases bz.1 ht with ht | ht
    ·exact gy (h1.short t ht)
    ·exact gy (h2.short t ht)⟩⟩
 over:=⟨fun i o e=>Nat.le_of_lt (h.c.some i o e).2.2.1,fun i o e=>Nat.le_of_lt (h.s.some i o e).2.2.1,fun i o e=>Nat.le_of_lt (h.m.some i o e).2.2.1,fun x hx=>by obtain ⟨h1,h2⟩:=h.mok x hx;exact ⟨fun i o e=>Nat.le_of_lt (h1.at' i o e).1,fun i o e=>Nat.le_of_lt (h2.at' i o e).1⟩⟩
 fits:=⟨fz (by show nm.length≤_; omega),fz (show descII.length≤100000 by decide),fz hc,fun x hx=>⟨fz (dr (h.cok x hx).cls (by decide)),fz (dr (h.cok x hx).name (by decide)),fz (dr (h.cok x hx).desc (by decide)),fz (dr (h.cok x hx).text (by decide))⟩,
  fz hS,fun x hx=>fz (dr (cls_short (h.sok x hx)) (by decide)),fz hM,fun x hx=>by obtain ⟨h1,h2⟩:=h.mok x hx;exact ⟨fz (dr h1.len (by decide)),fz (dr h2.len (by decide)),fun t ht=>fz (dr (h1.short t ht) (by decide)),fun t ht=>fz (dr (h2.short t ht) (by decide))⟩⟩
 keep:=h.keep
 tape:=h.tape
 traps:=h.sok
theorem Wr.meth2 (h:Wr tN tb tv B O pc pt px cc ct cx C S M dep bud) (hc:C.length≤100000) {nm:Str} (hn:nm.length≤100) {st:Bool} {a l:Int} :
  Made B tN tb tv st nm O ⟨st,nm,descII,a,l,C,pc,cc,[],none,some 0,[],none,some 0⟩:=by
 have h0:(0:Nat)≤gn:=d7 _
 refine ⟨rfl,rfl,rfl,⟨gy hn,(show descII.length≤big by decide),Own.row (f:=InsU.cells) (fun _=>rfl) h.c,by show C.length≤9223372036854775807; omega,fun i o e=>aj (h.c.some i o e).2.2.2,fun x hx=>⟨gy (h.cok x hx).cls,gy (h.cok x hx).name,gy (h.cok x hx).desc,gy (h.cok x hx).text⟩,
  ⟨fun h=>absurd rfl h⟩,d7 _,fun i o e=>(by cases e),fun x hx=>(by cases hx),⟨fun h=>absurd rfl h⟩,d7 _,fun i o e=>(by cases e),fun x hx=>(by cases hx)⟩,
  ⟨fun i o e=>Nat.le_of_lt (h.c.some i o e).2.2.1,fun i o e=>(by cases e),fun i o e=>(by cases e),fun x hx=>by cases hx⟩,
  ⟨fz (by show nm.length≤_; omega),fz (show descII.length≤100000 by decide),fz hc,fun x hx=>⟨fz (dr (h.cok x hx).cls (by decide)),fz (dr (h.cok x hx).name (by decide)),fz (dr (h.cok x hx).desc (by decide)),fz (dr (h.cok x hx).text (by decide))⟩,h0,fun x hx=>(by cases hx),h0,fun x hx=>by cases hx⟩,h.keep,h.tape,fun x hx=>by cases hx⟩
theorem Made.fin {O1:List AObj} {st:Bool} {nm:Str} {m:MethU} (h:Made O tN tb tv st nm O1 m) (ht:∃ p,Tape O tN tb tv p) (hne:∃ i o,m.ca=some (i,o)) (w W:Nat) :
  ∃ m' O' w',dx ⟨O,b,w⟩ (.agg m.cells) ⟨O1,b,W⟩=(.agg m'.cells,⟨O',b,w'⟩)∧Made O tN tb tv st nm O' m'∧(w'=min w W∨w'=w):=by
 have hv:(AVal.agg m.cells).under (⟨O,b,w⟩:Heap).size=false:=by
  obtain ⟨i,o,e⟩:=hne;have:=h.over.c i o e;have h2:¬ i < O.length:=by omega
  simp [MethU.cells,AVal.under,AVal.unders,e,Heap.size,h2]
 rcases tf (h:=⟨O1,b,W⟩) hv with ⟨w',h1,h2⟩ | ⟨h1,f,I,X,h2,h3,h4⟩
 ·exact ⟨m,O1,w',h1,h,by rcases h2 with h2 | h2 <;> simp_all⟩
 ·refine ⟨m.ren f,O++X,w,?_,⟨h.st,h.name,h.desc,h.ok.move h3 h.over h4,?_,?_,fun i hi _=>ag hi,?_,h.traps⟩,.inr rfl⟩
  ·rw [h2];simp only [AVal.ren,ren_meth]
  ·exact h.over.ren h3.up
  ·exact h.fits.ren
  ·obtain ⟨p,hp⟩:=ht;exact ⟨p,by rw [ag (aj hp.at')]; exact hp.at',hp.le,hp.small⟩
end Go.Abs.Zm

namespace Go.Abs.Zm
open Go.Abs.Zd Go.Abs.Zh
variable {os O B:List AObj} {b w:Nat} {tN:Nat} {tb:List UInt8} {tv:AVal} {dep:Int} {n k:Nat}
theorem Ws.made (h:Ws tN tb tv B O n k dep) (hn0:0 < n) (hk:k≤100000) {a0 a4 a5:AVal} {pc pt px:Option (Nat × Nat)} {n' nt nx:Nat} {cc ct cx:Option Nat} (hat:O[B.length]? = some (.cells 6 [a0,.slice pc n' cc,.slice pt nt ct,.slice px nx cx,a4,a5])) {nm:Str} (hn:nm.length≤100) {st:Bool} {a l:Int} :
  (∃ i o,pc=some (i,o))∧(∃ m:MethU,m.cells=[.bool st,.str nm,.str descII,.int .i64 a,.int .i64 l,.slice pc n' cc,.slice pt nt ct,.slice px nx cx]∧m.ca=pc∧Made B tN tb tv st nm O m) ∧
   ∃ m:MethU,m.cells=[.bool st,.str nm,.str descII,.int .i64 a,.int .i64 l,.slice pc n' cc,.slice none 0 (some 0),.slice none 0 (some 0)]∧m.ca=pc∧Made B tN tb tv st nm O m:=by
 obtain ⟨pc',pt',px',cc',ct',cx',C,S,M,bud,hW,rfl,h2,h3,h4⟩:=h.ex;have e:=hat.symm.trans hW.wr;simp only [wrO,bt,AObj.cells.injEq,km,AVal.slice.injEq,true_and,and_true] at e;obtain ⟨_,⟨rfl,rfl,rfl⟩,⟨rfl,rfl,rfl⟩,⟨rfl,rfl,rfl⟩,_⟩:=e;refine ⟨?_,⟨_,rfl,rfl,hW.meth (by omega) (by omega) (by omega) hn⟩,⟨_,rfl,rfl,hW.meth2 (by omega) hn⟩⟩;cases pc with
 | none=>have:=(hW.c.none rfl).1; rw [this] at hn0; simp at hn0
 | some q=>exact ⟨q.1,q.2,rfl⟩
def acts101:List Int:=[96,104,130]
theorem s101a {p:Nat} (ht:Tape O tN tb tv p) (hv:TapeV O tN tb tv) (hb:b≤tN) {nm:Str} (hn:nm.length≤100) {most:Int} (w:Nat) :
  ∃ m O' w',xCall T 101 [.ptr (some (tN,0)),.bool false,.str nm,.int .i64 most] ⟨O,b,w⟩=some (.agg m.cells,⟨O',b,w'⟩)∧Made O tN tb tv false nm O' m∧min w tN≤w'∧w'≤w:=by
 have h:=Ws.start ht hv;have hlt:=aj ht.at';obtain ⟨O1,m1,p1,l1,u1,e1⟩:=s150 h hb (by omega) (op:=21) (nn:=1);obtain ⟨O2,m2,p2,l2,u2,e2⟩:=s153 p1 hb (by omega) (x:=3) (by omega) (by omega);obtain ⟨O3,m3,p3,l3,u3,e3⟩:=s150 p2 hb (by omega) (op:=96) (nn:=0);obtain ⟨O4,m4,p4,l4,u4,e4⟩:=s150 p3 hb (by omega) (op:=25) (nn:=0);obtain ⟨O5,m5,p5,l5,u5,e5⟩:=s154 p4 hb (by omega) (op:=180) (c:=[65]) (m:=[102]) (d:=[73]) (by decide) (by decide) (by decide);obtain ⟨r2,O6,nx,g1,g2,g3,g4,g5,g6⟩:=(p5.app [.cells 1 (acts101.map (AVal.int .u8))]).next hb (x:=3) (by decide) (by decide)
 obtain ⟨y,hy⟩:=pr acts101 (r:=r2) (by simp only [acts101,bg,bp]; omega);obtain ⟨O7,m7,p7,l7,u7,e7⟩:=s150 g2 hb (by omega) (op:=y) (nn:=0);obtain ⟨O8,m8,p8,l8,u8,e8⟩:=s150 p7 hb (by omega) (op:=172) (nn:=0);obtain ⟨m',q1,q2,q3⟩:=jf g5 l7;have g7:=g4 O5.length (by have:=p5.len.2; omega);rw [dj] at g7;simp only [acts101,b0,f8] at g6 g7 hy;obtain ⟨pc,pt,px,cc,ct,cx,nt,nx',bud,hat,_⟩:=p8.at';obtain ⟨hne,_,m,hm1,hm2,hm3⟩:=p8.made (by omega) (by omega) hat hn (st:=false) (a:=8) (l:=2);have hf:=fun W=>hm3.fin (b:=b) ⟨p,ht⟩ (by rw [hm2]; exact hne) w W
 obtain ⟨m'',O',w',f1,f2,f3⟩:=hf (min m1 (min m2 (min m3 (min m4 (min m5 (min m' m8))))));refine ⟨m'',O',w',?_,f2,by omega,by omega⟩;rw [hm1] at f1;simp only [descII,eh,Nat.reduceAdd] at f1;simp (disch:=omega) [-getElem?_pos,-getElem?_neg,-List.all_eq_true,gz,gs,nltT,nltF,iltT,iltF,ileT,nleT,dg,-sget,jv,jw,jx,-dx,av t101,code101,e1,e2,e3,e4,e5,g6,g7,hy,e7,q3,e8,hat,f1,cz]
def zeroM:List AVal:=[.bool false,.str [],.str [],.int .i64 0,.int .i64 0,.slice none 0 (some 0),.slice none 0 (some 0),.slice none 0 (some 0)]
section
attribute [-simp] getElem?_pos getElem?_neg List.all_eq_true sget
attribute [local simp] gz gs nltT nltF iltT iltF ileT nleT dg jv jw jx
theorem t101_0 (h:Ws tN tb tv B O n k 0) (hb:b≤tN) {j:Nat} (hs:Act tN tb tv B b 0 152 [.ptr (some (B.length,0))] j) (hk:k+(6*j+6)≤100000) {nm:Str} (hn:nm.length≤100) {most:Int} (hm1:1≤most) (hm6:most≤6) :
  ∃ (O':List AObj) (W:Nat) (m:MethU),(∃ i o,m.ca=some (i,o))∧tN≤W∧W≤B.length∧Made B tN tb tv true nm O' m∧∀ (w:Nat) (c:AExit→St→Option (AVal × Heap)),w≤B.length →
   xK T code101T0 ⟨[(0,.val (.ptr (some (tN,0)))),(2,.val (.str nm)),(3,.val (.int .i64 most)),(8,.var zeroM),(9,.val (.ptr (some (B.length,0))))],⟨O,b,w⟩⟩ (k:=⟨c⟩)=c .ret ⟨[(8,.var m.cells)],⟨O',b,min w W⟩⟩:=by
 obtain ⟨hlt,hBO⟩:=h.len;obtain ⟨r,O1,nx,g1,g2,g3,g4,g5,g6⟩:=h.next hb (x:=most) hm1 (by omega)
 have hrj:(r+1)*j≤6*j:=il _ (by omega);obtain ⟨O2,m2,n2,q2,p2,l2,u2,e2⟩:=l101 (v2:=.str nm) (v8:=zeroM) hs (r+1) O1 n k (by omega) g2 (by omega);have hi1:Expr tN tb tv B b 0 151 1 5:=(mw hb 1 1 (by decide) (by decide) (by decide)).1;obtain ⟨O3,m3,⟨n3,k3,p3⟩,l3,u3,e3⟩:=hi1 O2 _ _ p2 (by omega);obtain ⟨O4,m4,p4,l4,u4,e4⟩:=s150 p3 hb (by omega) (op:=172) (nn:=0);obtain ⟨pc,pt,px,cc,ct,cx,nt,nx',bud,hat,_⟩:=p4.at';obtain ⟨hne,⟨m,hm,hm2,hm3⟩,_⟩:=p4.made (by omega) (by omega) hat hn (st:=true) (a:=40) (l:=8);obtain ⟨m',q4,q5,q6⟩:=jf g5 l2;refine ⟨O4,min m' (min m3 m4),m,by rw [hm2]; exact hne,by omega,by omega,hm3,fun w c hw=>?_⟩;have e2:=fun c=>e2 (nx w) c (by rcases g5 with g | g <;> rw [g] <;> omega)
 simp only [Int.natCast_add,bh] at e2;have er:(1:Int)+r=r+1:=by omega
 rw [hm];simp only [descII,zeroM] at e2 ⊢;simp (disch:=omega) [code101T0,code101R0,g6,er,e2,q6,e3,e4,hat,cz]
theorem t101_1 (h:Ws tN tb tv B O n k 0) (hb:b≤tN) {j:Nat} (hs:Act tN tb tv B b 0 152 [.ptr (some (B.length,0))] j) (hk:k+(6*j+16)≤100000) {nm:Str} (hn:nm.length≤100) {most:Int} (hm1:1≤most) (hm6:most≤6) :
  ∃ (O':List AObj) (W:Nat) (m:MethU),(∃ i o,m.ca=some (i,o))∧tN≤W∧W≤B.length∧Made B tN tb tv true nm O' m∧∀ (w:Nat) (c:AExit→St→Option (AVal × Heap)),w≤B.length →
   xK T code101T1 ⟨[(0,.val (.ptr (some (tN,0)))),(2,.val (.str nm)),(3,.val (.int .i64 most)),(8,.var zeroM),(9,.val (.ptr (some (B.length,0))))],⟨O,b,w⟩⟩ (k:=⟨c⟩)=c .ret ⟨[(8,.var m.cells)],⟨O',b,min w W⟩⟩:=by
 obtain ⟨hlt,hBO⟩:=h.len;obtain ⟨O1,m1,p1,l1,u1,e1⟩:=s150 h hb (by omega) (op:=10) (nn:=0);obtain ⟨O2,m2,p2,l2,u2,e2⟩:=s150 p1 hb (by omega) (op:=55) (nn:=3);obtain ⟨pc,pt,px,cc,ct,cx,nt,nx',bud,cs,h1,h6,h9,h7,hkw,_,_,p3⟩:=p2.put (b:=b) (x:=⟨187,0,0,[65],[],[],[]⟩) hb (by omega) ⟨by decide,by decide,by decide,by decide⟩;simp only [InsU.cells] at h7 p3;obtain ⟨O4,m4,p4,l4,u4,e4⟩:=s150 p3 hb (by omega) (op:=58) (nn:=5);obtain ⟨r,O5,nx,g1,g2,g3,g4,g5,g6⟩:=p4.next hb (x:=5) (by decide) (by decide)
 obtain ⟨O6,m6,p6,l6,u6,e6⟩:=s153 g2 hb (by omega) (x:=r) (by omega) (by omega);obtain ⟨m',q1,q2,q3⟩:=jf g5 l6;obtain ⟨O7,m7,p7,l7,u7,e7⟩:=s150 p6 hb (by omega) (op:=188) (nn:=10);obtain ⟨O8,m8,p8,l8,u8,e8⟩:=s150 p7 hb (by omega) (op:=58) (nn:=6);obtain ⟨O9,m9,p9,l9,u9,e9⟩:=s150 p8 hb (by omega) (op:=1) (nn:=0);obtain ⟨O10,m10,p10,l10,u10,e10⟩:=s150 p9 hb (by omega) (op:=58) (nn:=7);obtain ⟨O',W,m,hne,hW1,hW2,hM,e11⟩:=t101_0 p10 hb hs (by omega) hn hm1 hm6;refine ⟨O',min m1 (min m2 (min B.length (min m4 (min m' (min m7 (min m8 (min m9 (min m10 W)))))))),m,hne,by omega,by omega,hM,fun w c hw=>?_⟩;generalize zeroM=z at *;simp (disch:=omega) [code101T1,e1,e2,-dk,h1,h7,h6,h9,hkw,e4,g6,e6,q3,e7,e8,e9,e10,e11,cz]
end
end Go.Abs.Zm

namespace Go.Abs.Zm
open Go.Abs.Zd Go.Abs.Zh
variable {os O B:List AObj} {b w:Nat} {tN:Nat} {tb:List UInt8} {tv:AVal} {dep:Int} {n k:Nat}
theorem s101b {p:Nat} (ht:Tape O tN tb tv p) (hv:TapeV O tN tb tv) (hb:b≤tN) {nm:Str} (hn:nm.length≤100) {most:Int} (hm1:1≤most) (hm6:most≤6) (w:Nat) :
  ∃ m O' w',xCall T 101 [.ptr (some (tN,0)),.bool true,.str nm,.int .i64 most] ⟨O,b,w⟩=some (.agg m.cells,⟨O',b,w'⟩)∧Made O tN tb tv true nm O' m∧min w tN≤w'∧w'≤w:=by
 have h:=(Ws.start ht hv).app [.cells 1 rowT];have hlt:=aj ht.at';have hJ:JJ 3=3367:=rfl;have hs:Act tN tb tv O b 0 152 [.ptr (some (O.length,0))] (JJ 3):=s152 hb 3 0 (by decide) (by decide) (by decide);obtain ⟨O1,m1,n1,k1,p1,l1,u1,e1⟩:=l101b (v2:=.str nm) (v3:=.int .i64 most) (v8:=zeroM) hb (q:=O.length+1) (by omega) 2 0 _ 0 0 rfl (by rw [bl,d8]; rfl) h (by omega);obtain ⟨O2,W,m,hne,hW1,hW2,hM,e2⟩:=t101_1 p1 hb hs (by omega) hn hm1 hm6;obtain ⟨m'',O',w',f1,f2,f3⟩:=hM.fin (b:=b) ⟨p,ht⟩ hne w (min m1 W);refine ⟨m'',O',w',?_,f2,by omega,by omega⟩;have e1:=fun w c=>e1 w c (.inr (by decide))
 have e2:=fun c=>e2 m1 c u1
 simp only [zeroM,rowT,bh,bl,ci,bw] at e1 e2;have hml:m.cells.length=8:=rfl;have htk:List.take 8 m.cells=m.cells:=rfl;generalize m.cells=z at *;simp (disch:=omega) [-getElem?_pos,-getElem?_neg,-List.all_eq_true,gz,gs,nltT,nltF,iltT,iltF,ileT,nleT,dg,-sget,jv,jw,jx,-dx,av t101,code101,e1,e2,f1,hml,htk,cz]
end Go.Abs.Zm

namespace Go.Abs.Zm
open Go.Abs.Zd Go.Abs.Zh
variable {os O P Q B:List AObj} {b w:Nat} {tN:Nat} {tb:List UInt8} {tv:AVal} {n:Nat}
structure KeepX (t:Nat) (P Q:List AObj):Prop where
 at':∀ i o,i≠t→P[i]? = some o→Q[i]? = some o
 len:P.length≤Q.length
theorem KeepX.app (t:Nat) (P X:List AObj):KeepX t P (P++X):=⟨fun i o _ h=>by rw [ag (aj h)]; exact h,by simp⟩
theorem KeepX.set (t:Nat) (P:List AObj) (y:AObj):KeepX t P (P.set t y):=⟨fun i o h1 h=>by rw [au (Ne.symm h1)]; exact h,by simp⟩
theorem KeepX.trans {A B C:List AObj} {t:Nat} (h:KeepX t A B) (k:KeepX t B C):KeepX t A C:=⟨fun i o h1 h2=>k.at' i o h1 (h.at' i o h1 h2),dr h.len k.len⟩
theorem Made.keepX {st:Bool} {nm:Str} {m:MethU} (h:Made P tN tb tv st nm Q m):KeepX tN P Q:=by
 have hat:∀ i o,i≠tN→P[i]? = some o→Q[i]? = some o:=fun i o h1 h2=>by rw [h.keep i (aj h2) h1]; exact h2
 refine ⟨hat,?_⟩;rcases qg P.length with h0 | h0
 ·omega
 ·obtain ⟨p,hp⟩:=h.tape;have h3:=aj hp.at';by_cases e:P.length - 1=tN
  ·omega
  ·have:=aj (hat (P.length - 1) _ e (ah (by omega)));omega
theorem KeepX.row {t:Nat} (h:KeepX t P Q) {α:Type} {e:Nat} {f:α→List AVal} {L:List α} {a:Option (Nat × Nat)} (ho:over n a) (hn:t < n) (hR:Row P e f L a):Row Q e f L a :=
 ⟨fun hne=>by obtain ⟨i,o,cs,h1,h2,h3⟩:=hR.at' hne;have:=ho i o h1;exact ⟨i,o,cs,h1,h.at' i _ (by omega) h2,h3⟩⟩
theorem _root_.Go.Abs.MapU.ok.keep {t:Nat} (h:KeepX t P Q) (hn:t < n) {x:MapU} (ho:x.over n) (hx:x.ok P):x.ok Q:=⟨h.row ho.l hn hx.l,hx.ln,hx.lu.le h.len,h.row ho.s hn hx.s,hx.sn,hx.su.le h.len,hx.ls⟩
theorem _root_.Go.Abs.MethU.ok.keep {t:Nat} (h:KeepX t P Q) (hn:t < n) {m:MethU} (ho:m.over n) (hx:m.ok P):m.ok Q :=
 ⟨hx.name,hx.desc,h.row ho.c hn hx.c,hx.cn,hx.cu.le h.len,hx.cok,h.row ho.t hn hx.t,hx.tn,hx.tu.le h.len,hx.tok,h.row ho.x hn hx.x,hx.xn,hx.xu.le h.len,fun x hm=>(hx.xok x hm).keep h hn (ho.xs x hm)⟩
theorem rj {n m:Nat} {a:Option (Nat × Nat)} (h:over n a) (hm:m≤n):over m a:=fun i o e=>dr hm (h i o e)
theorem _root_.Go.Abs.MethU.over.mono {n k:Nat} {m:MethU} (h:m.over n) (hk:k≤n):m.over k:=⟨rj h.c hk,rj h.t hk,rj h.x hk,fun x hx=>⟨rj (h.xs x hx).l hk,rj (h.xs x hx).s hk⟩⟩
structure MOk (n:Nat) (P:List AObj) (st:Bool) (nm:Str) (m:MethU):Prop where
 st:m.st=st
 name:m.name=nm
 desc:m.desc=descII
 ok:m.ok P
 over:m.over n
 fits:m.fits
 traps:∀ x ∈ m.traps,x.cls ∈ classesT
theorem MOk.keep {t:Nat} (h:KeepX t P Q) (hn:t < n) {st:Bool} {nm:Str} {m:MethU} (hm:MOk n P st nm m):MOk n Q st nm m:=⟨hm.st,hm.name,hm.desc,hm.ok.keep h hn hm.over,hm.over,hm.fits,hm.traps⟩
theorem Made.mok {st:Bool} {nm:Str} {m:MethU} (h:Made P tN tb tv st nm Q m) (hn:n≤P.length):MOk n Q st nm m:=⟨h.st,h.name,h.desc,h.ok,h.over.mono hn,h.fits,h.traps⟩
structure Good (P:List AObj) (tN:Nat) (tb:List UInt8) (tv:AVal):Prop where
 tape:∃ p,Tape P tN tb tv p
 tv:TapeV P tN tb tv
theorem Good.keep (h:Good P tN tb tv) (k:KeepX tN P Q) (ht:∃ p,Tape Q tN tb tv p):Good Q tN tb tv:=by
 refine ⟨ht,?_⟩;obtain ⟨a,c,e,hr,hd⟩:=h.tv.row
 exact ⟨a,c,e,⟨fun hne=>by obtain ⟨i,o,cs,h1,h2,h3⟩:=hr.at' hne;exact ⟨i,o,cs,h1,k.at' i _ (hd i o h1) h2,h3⟩⟩,hd⟩
theorem Good.app (h:Good P tN tb tv) (X:List AObj):Good (P++X) tN tb tv:=by obtain ⟨p,hp⟩:=h.tape;exact h.keep (KeepX.app _ _ _) ⟨p,by rw [ag (aj hp.at')]; exact hp.at',hp.le,hp.small⟩
theorem Good.lt (h:Good P tN tb tv):tN < P.length:=by obtain ⟨p,hp⟩:=h.tape;exact aj hp.at'
theorem Good.next (h:Good P tN tb tv) (hb:b≤tN) {x:Int} (hx:1≤x) (hx2:x≤1000):∃ (r:Nat) (Q:List AObj) (nx:Nat→Nat),(r:Int) < x∧Good Q tN tb tv∧KeepX tN P Q∧Q.length=P.length∧((∀ w,nx w=w)∨(∀ w,nx w=min w tN))∧∀ w,xCall T 102 [.ptr (some (tN,0)),.int .i64 x] ⟨P,b,w⟩=some (.int .i64 r,⟨Q,b,nx w⟩):=by obtain ⟨p,hp⟩:=h.tape;obtain ⟨r,p',nx,q1,q2,q3,q4⟩:=s102 hp h.tv hb hx hx2;have hk:=KeepX.set tN P (tapeO tv p');exact ⟨r,_,nx,q1,h.keep hk ⟨p',by rw [de,if_pos rfl,if_pos h.lt],q2,hp.small⟩,hk,by simp,q3,q4⟩
theorem Good.body (h:Good P tN tb tv) (hb:b≤tN) {st:Bool} {nm:Str} (hn:nm.length≤100) {most:Int} (hm:st=true→1≤most∧most≤6) (w:Nat) :
  ∃ m Q w',xCall T 101 [.ptr (some (tN,0)),.bool st,.str nm,.int .i64 most] ⟨P,b,w⟩=some (.agg m.cells,⟨Q,b,w'⟩)∧Good Q tN tb tv∧KeepX tN P Q∧(∀ n,n≤P.length→MOk n Q st nm m)∧min w tN≤w'∧w'≤w:=by
 obtain ⟨p,hp⟩:=h.tape;have go:∀ {m:MethU} {Q:List AObj},Made P tN tb tv st nm Q m→Good Q tN tb tv∧KeepX tN P Q∧(∀ n,n≤P.length→MOk n Q st nm m):=fun hM=>⟨h.keep hM.keepX hM.tape,hM.keepX,fun n hn=>hM.mok hn⟩
 cases st with
 | false =>
  obtain ⟨m,Q,w',h1,h2,h3,h4⟩:=s101a hp h.tv hb hn (most:=most) w;obtain ⟨g1,g2,g3⟩:=go h2;exact ⟨m,Q,w',h1,g1,g2,g3,h3,h4⟩
 | true =>
  obtain ⟨m,Q,w',h1,h2,h3,h4⟩:=s101b hp h.tv hb hn (hm rfl).1 (hm rfl).2 w;obtain ⟨g1,g2,g3⟩:=go h2;exact ⟨m,Q,w',h1,g1,g2,g3,h3,h4⟩
end Go.Abs.Zm

namespace Go.Abs.Zm
open Go.Abs.Zd Go.Abs.Zh
variable {os O P Q B:List AObj} {b w:Nat} {tN:Nat} {tb:List UInt8} {tv:AVal} {n:Nat}
def mainT:Str:=[77,97,105,110]
def fieldsM:List FieldU:=[⟨true,[115],[73]⟩,⟨true,[111],[76,65,59]⟩]
def fieldsA:List FieldU:=[⟨false,[102],[73]⟩,⟨false,[108],[74]⟩,⟨false,[110,101,120,116],[76,65,59]⟩]
def fieldsB:List FieldU:=[⟨false,[103],[73]⟩]
def insO (x:Int):InsU:=⟨x,0,0,[],[],[],[]⟩
def helpM (q:Nat) (x y:Int):MethU:=⟨true,[104,101,108,112],descII,4,1,[insO 21,insO x,insO y,insO 172],some (q,0),some 4,[],none,some 0,[],none,some 0⟩
def actsH:List Int:=[100,108,112]
def uMain (f m:Nat) (m1 m2:MethU):UnitU:=⟨mainT,objectT,fieldsM,some (f,0),some 2,[m1,m2],some (m,0),some 2⟩
def uA (f m:Nat) (m1:MethU):UnitU:=⟨[65],objectT,fieldsA,some (f,0),some 3,[m1],some (m,0),some 1⟩
def uB (f:Nat) (ms:List MethU) (a:Option (Nat × Nat)) (c:Option Nat):UnitU:=⟨[66],[65],fieldsB,some (f,0),some 1,ms,a,c⟩
def uOops:UnitU:=⟨[79,111,112,115],[84,104,114,111,119,97,98,108,101],[],none,some 0,[],none,some 0⟩
theorem helpM_mok {q:Nat} {x y:Int} (hq:n≤q) (h:P[q]? = some (.cells 7 ([insO 21,insO x,insO y,insO 172].flatMap InsU.cells))):MOk n P true [104,101,108,112] (helpM q x y):=by
 have hlt:=aj h;have h0:(0:Nat)≤gn:=d7 _;have hs:∀ z ∈ [insO 21,insO x,insO y,insO 172],z.cls=[]∧z.name=[]∧z.desc=[]∧z.text=[]:=by simp [insO]
 refine ⟨rfl,rfl,rfl,⟨by show (4:Nat)≤9223372036854775807; decide,(show descII.length≤big by decide),Row.mk0 (fun _=>rfl) h,by show (4:Nat)≤9223372036854775807; decide,fun i o e=>?_,fun z hz=>?_,⟨fun h=>absurd rfl h⟩,d7 _,fun i o e=>(by cases e),fun z hz=>(by cases hz),⟨fun h=>absurd rfl h⟩,d7 _,fun i o e=>(by cases e),fun z hz=>(by cases hz)⟩,
  ⟨fun i o e=>?_,fun i o e=>(by cases e),fun i o e=>(by cases e),fun z hz=>(by cases hz)⟩,⟨by show (4:Nat)≤140737488351232; decide,by show (4:Nat)≤140737488351232; decide,by show (4:Nat)≤140737488351232; decide,fun z hz=>?_,h0,fun z hz=>(by cases hz),h0,fun z hz=>(by cases hz)⟩,fun z hz=>(by cases hz)⟩
 ·simp only [helpM,bt,el] at e; omega
 ·obtain ⟨h1,h2,h3,h4⟩:=hs z hz;rw [h1,h2,h3,h4]; exact ⟨d7 _,d7 _,d7 _,d7 _⟩
 ·simp only [helpM,bt,el] at e; omega
 ·obtain ⟨h1,h2,h3,h4⟩:=hs z hz;unfold InsU.fits;rw [h1,h2,h3,h4]; exact ⟨d7 _,d7 _,d7 _,d7 _⟩
def sk (m:MethU):Bool × Str × Str:=(m.st,m.name,m.desc)
structure Skel (L:List UnitU):Prop where
 traps:∀ u ∈ L,∀ m ∈ u.meths,∀ t ∈ m.traps,t.cls ∈ classesT
 ex:∃ u1 u2 u3 u4,L=[u1,u2,u3,u4] ∧
  (u1.name=mainT∧u1.super=objectT∧u1.fields=fieldsM∧u1.meths.map sk=[(true,[109,97,105,110],descII),(true,[104,101,108,112],descII)]) ∧
  (u2.name=[65]∧u2.super=objectT∧u2.fields=fieldsA∧u2.meths.map sk=[(false,[118],descII)]) ∧
  (u3.name=[66]∧u3.super=[65]∧u3.fields=fieldsB∧(u3.meths.map sk=[]∨u3.meths.map sk=[(false,[118],descII)])) ∧
  (u4.name=[79,111,112,115]∧u4.super=[84,104,114,111,119,97,98,108,101]∧u4.fields=[]∧u4.meths.map sk=[])
end Go.Abs.Zm

namespace Go.Abs.Zm
open Go.Abs.Zd Go.Abs.Zh
variable {os O P Q B:List AObj} {b w:Nat} {tN:Nat} {tb:List UInt8} {tv:AVal} {n:Nat}
def unitsEnd (O:List AObj) (b w:Nat) (Q:List AObj) (W:Nat) (L:List UnitU):Option (AVal × Heap):=some (dx ⟨O,b,w⟩ (.slice (some (Q.length,0)) 4 (some 4)) ⟨Q++[.cells 4 (L.flatMap UnitU.cells)],b,W⟩)
section
attribute [-simp] getElem?_pos getElem?_neg List.all_eq_true sget
attribute [local simp] gz gs nltT nltF iltT iltF ileT nleT dg jv jw jx
theorem t48_0 (hb:b≤P.length) {u1 u2 u3:UnitU} (w:Nat) (c:AExit→St→Option (AVal × Heap)) :
  xK T code48T0 ⟨[(3,.var u1.cells),(4,.var u2.cells),(5,.var u3.cells)],⟨P,b,w⟩⟩ (k:=⟨c⟩)=c .ret ⟨[(2,.val (.slice (some (P.length,0)) 4 (some 4)))],⟨P++[.cells 4 ([u1,u2,u3,uOops].flatMap UnitU.cells)],b,w⟩⟩:=by
 simp (disch:=omega) [code48T0,UnitU.cells,uOops]
theorem t48_1 (h:Good P tN tb tv) (hb:b≤tN) {u1 u2:UnitU} {f:Nat} (w:Nat) :
  ∃ Q W ms a c,Good Q tN tb tv∧KeepX tN P Q∧min w tN≤W∧W≤w∧(ms=[]∧a=none∧c=some 0∨∃ m q,ms=[m]∧a=some (q,0)∧c=some 1∧P.length≤q∧Q[q]? = some (.cells 8 m.cells)∧∀ n,tN < n→n≤P.length→MOk n Q false [118] m) ∧
   ∀ (k:AExit→St→Option (AVal × Heap)),xK T code48T1 ⟨[(0,.val (.ptr (some (tN,0)))),(3,.var u1.cells),(4,.var u2.cells),(5,.var (uB f [] none (some 0)).cells)],⟨P,b,w⟩⟩ (k:=⟨k⟩) =
    k .ret ⟨[(2,.val (.slice (some (Q.length,0)) 4 (some 4)))],⟨Q++[.cells 4 ([u1,u2,uB f ms a c,uOops].flatMap UnitU.cells)],b,W⟩⟩:=by
 obtain ⟨r,P1,nx,h1,g1,k1,l1,hnx,e1⟩:=h.next hb (x:=3) (by decide) (by decide)
 have hlt:=h.lt;have hnx2:min w tN≤nx w∧nx w≤w:=by rcases hnx with g | g <;> rw [g] <;> omega
 by_cases hr:r=0
 ·subst hr;have e2:=fun c=>t48_0 (P:=P1) (b:=b) (by omega) (u1:=u1) (u2:=u2) (u3:=uB f [] none (some 0)) (nx w) c
  refine ⟨P1,nx w,[],none,some 0,g1,k1,hnx2.1,hnx2.2,.inl ⟨rfl,rfl,rfl⟩,fun k=>?_⟩;generalize u1.cells=z1 at *;generalize u2.cells=z2 at *;simp (disch:=omega) [code48T1,e1,e2]
 ·obtain ⟨m,P2,w2,e2,g2,k2,hm,hw1,hw2⟩:=g1.body (st:=false) hb (nm:=[118]) (by decide) (most:=0) (fun h=>by cases h) (nx w);have hlt2:=g2.lt;have hk3:=KeepX.app tN P2 [.cells 8 m.cells];have e3:=fun c=>t48_0 (P:=P2++[.cells 8 m.cells]) (b:=b) (by simp; omega) (u1:=u1) (u2:=u2) (u3:=uB f [m] (some (P2.length,0)) (some 1)) w2 c
  refine ⟨P2++[.cells 8 m.cells],w2,[m],some (P2.length,0),some 1,g2.app _,(k1.trans k2).trans hk3,by omega,by omega,.inr ⟨m,P2.length,rfl,rfl,rfl,(k1.trans k2).len,by rw [dj]; rfl,fun n hn0 hn=>((hm n (by omega)).keep hk3 hn0)⟩,fun k=>?_⟩
  ·have hr2:(0:Int) < r:=by omega
   have hml:m.cells.length=8:=rfl;have htk:List.take 8 m.cells=m.cells:=rfl;generalize ([u1,u2,uB f [m] (some (P2.length,0)) (some 1),uOops].flatMap UnitU.cells)=R at e3 ⊢;have hc3:(uB f [m] (some (P2.length,0)) (some 1)).cells=[.str [66],.str [65],.slice (some (f,0)) 1 (some 1),.slice (some (P2.length,0)) 1 (some 1)]:=rfl;have hc4:(uB f [] none (some 0)).cells=[.str [66],.str [65],.slice (some (f,0)) 1 (some 1),.slice none 0 (some 0)]:=rfl;rw [hc3] at e3;rw [hc4];generalize u1.cells=z1 at *;generalize u2.cells=z2 at *;generalize m.cells=z at *;simp (disch:=omega) [code48T1,e1,hr2,e2,hml,htk,e3]
end
end Go.Abs.Zm

namespace Go.Abs.Zm
open Go.Abs.Zd Go.Abs.Zh
variable {os O P Q B:List AObj} {b w:Nat} {tN:Nat} {tb:List UInt8} {tv:AVal} {n:Nat}
def RowIs {α:Type} (Q:List AObj) (n e:Nat) (f:α→List AVal) (L:List α) (a:Option (Nat × Nat)):Prop:=L=[]∧a=none∨∃ q,a=some (q,0)∧n≤q∧Q[q]? = some (.cells e (L.flatMap f))
theorem RowIs.row {α:Type} {e:Nat} {f:α→List AVal} {L:List α} {a:Option (Nat × Nat)} (hf:∀ x,(f x).length=e) (h:RowIs Q n e f L a):Row Q e f L a∧under Q.length a∧over n a:=by
 rcases h with ⟨rfl,rfl⟩ | ⟨q,rfl,h1,h2⟩
 ·exact ⟨⟨fun h=>absurd rfl h⟩,fun i o e=>(by cases e),fun i o e=>(by cases e)⟩
 ·refine ⟨Row.mk0 hf h2,fun i o e=>?_,fun i o e=>?_⟩
  ·simp only [bt,el] at e; have:=aj h2; omega
  ·simp only [bt,el] at e; omega
theorem xf {u:UnitU} (hn:u.name.length≤100) (hs:u.super.length≤100) (hf:RowIs Q n 3 FieldU.cells u.fields u.fa) (hfl:u.fields.length≤100) (hfs:∀ x ∈ u.fields,x.name.length≤100∧x.desc.length≤100)
  (hm:RowIs Q n 8 MethU.cells u.meths u.ma) (hml:u.meths.length≤100) (hms:∀ x ∈ u.meths,∃ st nm,MOk n Q st nm x) (hcf:∀ k,u.fc=some k→u.fields.length≤k) (hcm:∀ k,u.mc=some k→u.meths.length≤k):u.ok Q∧u.fits∧u.over n:=by
 obtain ⟨f1,f2,f3⟩:=RowIs.row (f:=FieldU.cells) (fun _=>rfl) hf;obtain ⟨m1,m2,m3⟩:=RowIs.row (f:=MethU.cells) (fun _=>rfl) hm;have r:∀ {x:Nat},x≤100→x≤gn:=fun h=>fz (by omega)
 exact ⟨⟨gy hn,gy hs,f1,gy hfl,f2,fun x hx=>⟨gy (hfs x hx).1,gy (hfs x hx).2⟩,m1,gy hml,m2,fun x hx=>by obtain ⟨_,_,h⟩:=hms x hx; exact h.ok⟩,
  ⟨r hn,r hs,r hfl,fun x hx=>⟨r (hfs x hx).1,r (hfs x hx).2⟩,r hml,fun x hx=>(by obtain ⟨_,_,h⟩:=hms x hx; exact h.fits),⟨hcf,hcm⟩⟩,
  ⟨f3,m3,fun x hx=>by obtain ⟨_,_,h⟩:=hms x hx; exact h.over⟩⟩
theorem zbf {x:UInt8}:([x]:Str).length≤100:=by show 1≤100; decide
theorem nm100:mainT.length≤100∧objectT.length≤100:=by decide
theorem fs100:(fieldsM.length≤100∧∀ x ∈ fieldsM,x.name.length≤100∧x.desc.length≤100)∧(fieldsA.length≤100∧∀ x ∈ fieldsA,x.name.length≤100∧x.desc.length≤100)∧(fieldsB.length≤100∧∀ x ∈ fieldsB,x.name.length≤100∧x.desc.length≤100):=by
 refine ⟨⟨by decide,fun x hx=>?_⟩,⟨by decide,fun x hx=>?_⟩,by decide,fun x hx=>?_⟩
 ·simp only [fieldsM,cg,fo,or_false] at hx;rcases hx with rfl | rfl <;> exact ⟨by show (_:Nat)≤100; decide,by show (_:Nat)≤100; decide⟩
 ·simp only [fieldsA,cg,fo,or_false] at hx;rcases hx with rfl | rfl | rfl <;> exact ⟨by show (_:Nat)≤100; decide,by show (_:Nat)≤100; decide⟩
 ·simp only [fieldsB,cg,fo,or_false] at hx;subst hx; exact ⟨by show (_:Nat)≤100; decide,by show (_:Nat)≤100; decide⟩
theorem s48_run (h:Good O tN tb tv) (hb:b≤tN):∃ (Q:List AObj) (W:Nat) (L:List UnitU),Good Q tN tb tv∧KeepX tN O Q∧tN≤W∧L.length=4∧Skel L∧(∀ u ∈ L,u.ok Q∧u.fits∧u.over O.length)∧∀ w,xCall T 48 [.ptr (some (tN,0))] ⟨O,b,w⟩=unitsEnd O b w Q W L:=by
 have hlt:=h.lt;have g1:=h.app [.cells 3 (fieldsM.flatMap FieldU.cells)];have k1:=KeepX.app tN O [.cells 3 (fieldsM.flatMap FieldU.cells)];obtain ⟨m1,P2,w2,e2,g2,k2,hm1,hw2,hw2'⟩:=g1.body (st:=true) hb (nm:=[109,97,105,110]) (by decide) (most:=6) (fun _=>⟨by decide,by decide⟩) O.length;obtain ⟨r1,P3,nx1,h3,g3,k3,l3,hnx3,e3⟩:=g2.next hb (x:=7) (by decide) (by decide)
 have g3b:=g3.app [.cells 1 (actsH.map (AVal.int .u8))];have k3b:=KeepX.app tN P3 [.cells 1 (actsH.map (AVal.int .u8))];obtain ⟨r2,P4,nx2,h4,g4,k4,l4,hnx4,e4⟩:=g3b.next hb (x:=3) (by decide) (by decide)
 obtain ⟨y,hy⟩:=pr actsH (r:=r2) (by simp only [actsH,bg,bp]; omega);have hP3:=g3.lt;have hP4:=g4.lt;have hy4:P4[P3.length]? = some (.cells 1 (actsH.map (AVal.int .u8))):=k4.at' _ _ (by omega) (by rw [dj]; rfl);obtain ⟨x,hx⟩:∃ x:Int,x=IntKind.u8.wrap (2+(r1:Int)):=⟨_,rfl⟩;obtain ⟨X5,hX5⟩:∃ X,X=[AObj.cells 7 ([insO 21,insO x,insO y,insO 172].flatMap InsU.cells),AObj.cells 8 ([m1,helpM P4.length x y].flatMap MethU.cells)]:=⟨_,rfl⟩;have g5:=g4.app X5;have k5:=KeepX.app tN P4 X5;have g6:=g5.app [.cells 3 (fieldsA.flatMap FieldU.cells)];have k6:=KeepX.app tN (P4++X5) [.cells 3 (fieldsA.flatMap FieldU.cells)];obtain ⟨m2,P7,w3,e7,g7,k7,hm2,hw3,hw3'⟩:=g6.body (st:=false) hb (nm:=[118]) (by decide) (most:=0) (fun h=>by cases h) (nx2 (nx1 w2));have g8:=g7.app [.cells 8 m2.cells];have k8:=KeepX.app tN P7 [.cells 8 m2.cells];have g9:=g8.app [.cells 3 (fieldsB.flatMap FieldU.cells)]
 have k9:=KeepX.app tN (P7++[.cells 8 m2.cells]) [.cells 3 (fieldsB.flatMap FieldU.cells)];obtain ⟨Q,W,ms,a,c,gQ,kQ,hW1,hW2,hms,e9⟩:=t48_1 g9 hb (u1:=uMain O.length (P4.length+1) m1 (helpM P4.length x y)) (u2:=uA (P4.length+2) P7.length m2) (f:=P7.length+1) w3;have hP7:=g7.lt;have hlen5:(P4++X5).length=P4.length+2:=by rw [hX5]; simp
 have n1:tN≤nx1 w2:=by rcases hnx3 with g | g <;> rw [g] <;> omega
 have n2:tN≤nx2 (nx1 w2):=by rcases hnx4 with g | g <;> rw [g] <;> omega
 refine ⟨Q,W,[uMain O.length (P4.length+1) m1 (helpM P4.length x y),uA (P4.length+2) P7.length m2,uB (P7.length+1) ms a c,uOops],gQ,((((((((k1.trans k2).trans k3).trans k3b).trans k4).trans k5).trans k6).trans k7).trans (k8.trans k9)).trans kQ,by omega,rfl,?_,?_,fun w=>?_⟩
 ·have a1:=hm1 0 (d7 _);have a2:=hm2 0 (d7 _);have b1:sk m1=(true,[109,97,105,110],descII):=by unfold sk; rw [a1.st,a1.name,a1.desc]
  have b2:sk m2=(false,[118],descII):=by unfold sk; rw [a2.st,a2.name,a2.desc]
  refine ⟨fun u hu m hm t ht=>?_,_,_,_,_,rfl,⟨rfl,rfl,rfl,?_⟩,⟨rfl,rfl,rfl,?_⟩,⟨rfl,rfl,rfl,?_⟩,rfl,rfl,rfl,rfl⟩
  ·simp only [cg,fo,or_false] at hu;rcases hu with rfl | rfl | rfl | rfl
   ·simp only [uMain,cg,fo,or_false] at hm;rcases hm with rfl | rfl
    ·exact a1.traps t ht
    ·cases ht
   ·simp only [uA,cg,fo,or_false] at hm;subst hm; exact a2.traps t ht
   ·rcases hms with ⟨rfl,_,_⟩ | ⟨m',q,rfl,_,_,_,_,h5⟩
    ·cases hm
    ·simp only [uB,cg,fo,or_false] at hm;subst hm;exact (h5 (tN+1) (by omega) (by simp only [aq]; omega)).traps t ht
   ·cases hm
  ·show [sk m1,sk (helpM P4.length x y)]=_
   rw [b1]; rfl
  ·show [sk m2]=_
   rw [b2]
  ·rcases hms with ⟨rfl,_,_⟩ | ⟨m,q,rfl,_,_,_,_,h5⟩
   ·exact .inl rfl
   ·right;have a3:=h5 (tN+1) (by omega) (by simp only [aq]; omega);show [sk m]=_;unfold sk; rw [a3.st,a3.name,a3.desc]
 ·have kB:=((((((k3.trans k3b).trans k4).trans k5).trans k6).trans k7).trans (k8.trans k9)).trans kQ;have kC:=((k6.trans k7).trans (k8.trans k9)).trans kQ;have kD:=(k7.trans (k8.trans k9)).trans kQ;have kE:=(k8.trans k9).trans kQ;have kF:=k9.trans kQ;have hO1:O.length+1≤P2.length:=by have:=k2.len; simpa using this
  have hO3:O.length+1≤P4.length:=by have:=k3.len; have:=k3b.len; have:=k4.len; omega
  have hO7:O.length+1≤P7.length:=by have:=k7.len; simp only [aq,hlen5] at this; have:=hlen5; simp only [aq] at this; omega
  have q1:Q[O.length]? = some (.cells 3 (fieldsM.flatMap FieldU.cells)):=(k2.trans kB).at' _ _ (by omega) (by rw [dj]; rfl);have q2:Q[P4.length]? = some (.cells 7 ([insO 21,insO x,insO y,insO 172].flatMap InsU.cells)):=kC.at' _ _ (by omega) (by rw [dj,hX5]; rfl);have q3:Q[P4.length+1]? = some (.cells 8 ([m1,helpM P4.length x y].flatMap MethU.cells)):=kC.at' _ _ (by omega) (by rw [d8,hX5]; rfl);have q4:Q[P4.length+2]? = some (.cells 3 (fieldsA.flatMap FieldU.cells)):=kD.at' _ _ (by omega) (by rw [← hlen5,dj]; rfl);have q5:Q[P7.length]? = some (.cells 8 ([m2].flatMap MethU.cells)):=kF.at' _ _ (by omega) (by rw [dj]; simp);have q6:Q[P7.length+1]? = some (.cells 3 (fieldsB.flatMap FieldU.cells)):=kQ.at' _ _ (by omega) (by rw [bl,d8]; rfl);have a1:=(hm1 O.length (by simp)).keep kB hlt;have a2:=(hm2 O.length (by rw [aq,hlen5]; omega)).keep kE hlt
  have a3:=helpM_mok (n:=O.length) (by omega) q2;intro u hu;simp only [cg,fo,or_false] at hu;rcases hu with rfl | rfl | rfl | rfl
  ·refine xf nm100.1 nm100.2 (.inr ⟨_,rfl,ai _,q1⟩) fs100.1.1 fs100.1.2 (.inr ⟨_,rfl,by omega,q3⟩) (by show 2≤100; decide) (fun z hz=>?_) (fun k hk=>by cases hk; exact ai _) (fun k hk=>by cases hk; exact ai _);simp only [uMain,cg,fo,or_false] at hz;rcases hz with rfl | rfl
   ·exact ⟨_,_,a1⟩
   ·exact ⟨_,_,a3⟩
  ·refine xf zbf nm100.2 (.inr ⟨_,rfl,by omega,q4⟩) fs100.2.1.1 fs100.2.1.2 (.inr ⟨_,rfl,by omega,q5⟩) (by show 1≤100; decide) (fun z hz=>?_) (fun k hk=>by cases hk; exact ai _) (fun k hk=>by cases hk; exact ai _);simp only [uA,cg,fo,or_false] at hz;subst hz;exact ⟨_,_,a2⟩
  ·rcases hms with ⟨rfl,rfl,rfl⟩ | ⟨m,q,rfl,rfl,rfl,h3,h4,h5⟩
   ·exact xf zbf zbf (.inr ⟨_,rfl,by omega,q6⟩) fs100.2.2.1 fs100.2.2.2 (.inl ⟨rfl,rfl⟩) (by show 0≤100; decide) (fun z hz=>by cases hz) (fun k hk=>by cases hk; exact ai _) (fun k hk=>by cases hk; exact ai _)
   ·have h3':O.length+1≤q:=by simp only [aq] at h3; omega
    refine xf zbf zbf (.inr ⟨_,rfl,by omega,q6⟩) fs100.2.2.1 fs100.2.2.2 (.inr ⟨_,rfl,by omega,by rw [h4]; simp [uB]⟩) (by show 1≤100; decide) (fun z hz=>?_) (fun k hk=>by cases hk; exact ai _) (fun k hk=>by cases hk; exact ai _);simp only [uB,cg,fo,or_false] at hz;subst hz;exact ⟨_,_,h5 O.length hlt (by simp only [aq]; omega)⟩
  ·exact xf (by decide) (by decide) (.inl ⟨rfl,rfl⟩) (by decide) (by decide) (.inl ⟨rfl,rfl⟩) (by decide) (fun z hz=>by cases hz) (fun k hk=>by cases hk; exact ai _) (fun k hk=>by cases hk; exact ai _)
 ·unfold unitsEnd;subst hX5;simp only [actsH,b0,f8] at e4 hy hy4;have hml:m1.cells.length=8:=rfl;have htk:List.take 8 m1.cells=m1.cells:=rfl;have hml2:m2.cells.length=8:=rfl;have htk2:List.take 8 m2.cells=m2.cells:=rfl;have hc1:(uMain O.length (P4.length+1) m1 (helpM P4.length x y)).cells=[.str mainT,.str objectT,.slice (some (O.length,0)) 2 (some 2),.slice (some (P4.length+1,0)) 2 (some 2)]:=rfl;have hc2:(uA (P4.length+2) P7.length m2).cells=[.str [65],.str objectT,.slice (some (P4.length+2,0)) 3 (some 3),.slice (some (P7.length,0)) 1 (some 1)]:=rfl;have hc3:(uB (P7.length+1) [] none (some 0)).cells=[.str [66],.str [65],.slice (some (P7.length+1,0)) 1 (some 1),.slice none 0 (some 0)]:=rfl;rw [hc1,hc2,hc3] at e9;generalize ([uMain O.length (P4.length+1) m1 (helpM P4.length x y),uA (P4.length+2) P7.length m2,uB (P7.length+1) ms a c,uOops].flatMap UnitU.cells)=R at e9 ⊢
  simp only [fieldsM,fieldsA,fieldsB,cj,ju,FieldU.cells,ci,bw,cq,bl,bg,bp,eh,Nat.reduceAdd,insO,InsU.cells,MethU.cells,helpM,mainT,objectT,descII] at e2 e4 e7 e9 ⊢;simp (disch:=omega) [-getElem?_pos,-getElem?_neg,-List.all_eq_true,gz,gs,nltT,nltF,iltT,iltF,ileT,nleT,dg,-sget,jv,jw,jx,-dx,av t48,code48,code48T4,code48T3,code48T2,e2,e3,e4,hy,hy4,e7,e9,hml,htk,hml2,htk2,← hx]
end Go.Abs.Zm

namespace Go.Abs.Zm
open Go.Abs.Zd Go.Abs.Zh
variable {os O P Q B:List AObj} {b w:Nat} {tN:Nat} {tb:List UInt8} {tv:AVal} {n:Nat}
theorem sk_ren (f:Nat→Nat):∀ L:List MethU,(L.map (MethU.ren f)).map sk=L.map sk
 | []=>rfl
 | m :: L=>by simp only [b0,sk_ren f L]; rfl
theorem Skel.ren {L:List UnitU} (h:Skel L) (f:Nat→Nat):Skel (L.map (UnitU.ren f)):=by
 obtain ⟨u1,u2,u3,u4,rfl,h1,h2,h3,h4⟩:=h.ex;have e:∀ u:UnitU,(u.ren f).meths.map sk=u.meths.map sk:=fun u=>sk_ren f u.meths
 have ht:∀ u ∈ [u1,u2,u3,u4].map (UnitU.ren f),∀ m ∈ u.meths,∀ t ∈ m.traps,t.cls ∈ classesT:=fun u hu m hm t htt=>by obtain ⟨v,hv,rfl⟩:=ep.1 hu;obtain ⟨m',hm',rfl⟩:=ep.1 hm;exact h.traps v hv m' hm' t htt
 refine ⟨ht,?_⟩;exact ⟨_,_,_,_,rfl,⟨h1.1,h1.2.1,h1.2.2.1,by rw [e]; exact h1.2.2.2⟩,⟨h2.1,h2.2.1,h2.2.2.1,by rw [e]; exact h2.2.2.2⟩,⟨h3.1,h3.2.1,h3.2.2.1,by rw [e]; exact h3.2.2.2⟩,h4.1,h4.2.1,h4.2.2.1,by rw [e]; exact h4.2.2.2⟩
theorem s48o (h:Good O tN tb tv) (hb:b≤tN) (w:Nat):∃ a c L O' w',xCall T 48 [.ptr (some (tN,0))] ⟨O,b,w⟩=some (.slice a 4 c,⟨O',b,w'⟩)∧L.length=4∧Row O' 4 UnitU.cells L a∧(∀ u ∈ L,u.ok O'∧u.fits∧u.over O.length)∧under O'.length a∧Skel L∧KeepX tN O O'∧min w tN≤w'∧w'≤w:=by
 obtain ⟨Q,W,L,gQ,kQ,hW,hL,hS,hu,hx⟩:=s48_run h hb;rw [hx w];unfold unitsEnd;have hlen:=kQ.len
 have hv:(AVal.slice (some (Q.length,0)) 4 (some 4)).under (⟨O,b,w⟩:Heap).size=false:=by
  have:¬ Q.length < O.length:=by omega
  simp [AVal.under,Heap.size,this]
 have hRow:Row (Q++[.cells 4 (L.flatMap UnitU.cells)]) 4 UnitU.cells L (some (Q.length,0)):=Row.mk0 (fun _=>rfl) (by rw [dj]; rfl);have hok:∀ u ∈ L,u.ok (Q++[.cells 4 (L.flatMap UnitU.cells)]):=fun u hm=>(hu u hm).1.pre (Pre.app _ _)
 rcases tf (h:=⟨Q++[.cells 4 (L.flatMap UnitU.cells)],b,W⟩) hv with ⟨w',h1,h2⟩ | ⟨h1,f,I,X,h2,h3,h4⟩
 ·refine ⟨some (Q.length,0),some 4,L,_,w',by rw [h1],hL,hRow,fun u hm=>⟨hok u hm,(hu u hm).2⟩,fun i o e=>?_,hS,kQ.trans (KeepX.app _ _ _),?_,?_⟩
  ·simp only [bt,el] at e; simp; omega
  ·rcases h2 with h2 | ⟨h2,_⟩
   ·simp only at h2; omega
   ·simp only at h2; omega
  ·rcases h2 with h2 | ⟨h2,_⟩
   ·simp only at h2; omega
   ·simp only at h2; omega
 ·have hin:inI I (some (Q.length,0)):=fun i o e=>by simp only [bt,el] at e;rw [← e.1]; exact h4 _ (by simp [AVal.ids]) hlen
  have hR2:=h3.row (F':=UnitU.cells) (g:=UnitU.ren f) hRow hin fun u=>ren_unitU u
  refine ⟨renA f (some (Q.length,0)),some 4,L.map (UnitU.ren f),_,w,by rw [h2,zbk],by simpa using hL,hR2,fun u hm=>?_,h3.under hin (fun i o e=>?_),hS.ren f,KeepX.app _ _ _,kj ..,ai _⟩
  ·obtain ⟨v,hv,rfl⟩:=ep.1 hm;exact ⟨(hok v hv).move h3 (hu v hv).2.2 (h3.ids hRow hin hv),(hu v hv).2.1.ren,(hu v hv).2.2.ren h3.up⟩
  ·simp only [bt,el] at e; simp; omega
end Go.Abs.Zm

namespace Go.Abs.Zm
open Go.Abs.Zd Go.Abs.Zh
def SM:List (Str × Str):=builtS++[(mainT,objectT),([65],objectT),([66],[65]),([79,111,112,115],throwT)]
theorem map_one {α β:Type} {f:α→β} {L:List α} {x:β} (h:L.map f=[x]):∃ a,L=[a]∧f a=x:=by
 match L,h with
 | [a],h=>simp only [b0,f8,km,and_true] at h; exact ⟨a,rfl,h⟩
theorem map_two {α β:Type} {f:α→β} {L:List α} {x y:β} (h:L.map f=[x,y]):∃ a c,L=[a,c]∧f a=x∧f c=y:=by
 match L,h with
 | [a,c],h=>simp only [b0,f8,km,and_true] at h; exact ⟨a,c,rfl,h⟩
theorem trap_made {t:TrapU} (h:t.cls ∈ classesT):trapOk SM t=true:=by
 have:∀ c ∈ classesT,(decide (c=[]) || (gg SM c).isSome)=true:=by decide
 exact this _ h
theorem td {m:MethU} (hd:m.desc=descII) (hn:isName m.name=true) (ht:∀ t ∈ m.traps,t.cls ∈ classesT):rightS SM m=true:=by
 have e:methL descII=some ([[73]],[73]):=by kernel_rfl
 unfold rightS;rw [hd,e,hn];simp only [dh,az];refine ⟨by kernel_rfl,al.2 fun t h=>trap_made (ht t h)⟩
def mainN:Str:=[109,97,105,110]
def helpN:Str:=[104,101,108,112]
def vN:Str:=[118]
def mkM (c n:Str) (st:Bool):Key × Mem:=((c,n,descII),⟨c,st⟩)
def FM:List (Key × Mem):=fieldsM.map (fieldE mainT)++fieldsA.map (fieldE [65])++fieldsB.map (fieldE [66])
def MM0:List (Key × Mem):=builtM++[mkM mainT mainN true,mkM mainT helpN true,mkM [65] vN false]
theorem overOk_eq (M:List (Key × Mem)) (m:MethU):overOk M m=fun c=>match gg M (c,m.name,m.desc) with
 | some y=>y.st == m.st
 | none=>true:=rfl
theorem worldS_made {L:List UnitU} (h:Skel L):∃ F M,worldS L=some (SM,F,M):=by
 obtain ⟨ht,u1,u2,u3,u4,rfl,⟨a1,a2,a3,a4⟩,⟨b1,b2,b3,b4⟩,⟨c1,c2,c3,c4⟩,d1,d2,d3,d4⟩:=h;obtain ⟨m1,m2,e1,f1,f2⟩:=map_two a4;obtain ⟨m3,e2,f3⟩:=map_one b4;have e4:u4.meths=[]:=List.map_eq_nil_iff.1 d4;simp only [sk,el] at f1 f2 f3;have r1:rightS SM m1=true:=td f1.2.2 (by rw [f1.2.1]; kernel_rfl) (ht u1 (by simp) m1 (by simp [e1]));have r2:rightS SM m2=true:=td f2.2.2 (by rw [f2.2.1]; kernel_rfl) (ht u1 (by simp) m2 (by simp [e1]));have r3:rightS SM m3=true:=td f3.2.2 (by rw [f3.2.1]; kernel_rfl) (ht u2 (by simp) m3 (by simp [e2]))
 have g1:supersS builtS [u1,u2,u3,u4]=some SM:=by simp only [supersS,superOk,a1,a2,b1,b2,c1,c2,d1,d2];kernel_rfl
 unfold worldS;rw [g1];rcases c4 with c4 | c4
 ·have e3:u3.meths=[]:=List.map_eq_nil_iff.1 c4;refine ⟨FM,MM0,?_⟩;simp only [bg,bp,eh,Nat.reduceAdd,Nat.reduceLeDiff,if_true,membersS,unitOk,a1,a3,b1,b3,c1,c3,d1,d3,e1,e2,e3,e4,methsS,methOk,f1.1,f1.2.1,f1.2.2,f2.1,f2.2.1,f2.2.2,f3.1,f3.2.1,f3.2.2,r1,r2,r3,methE,b0,f8,dz,List.all_nil,overS,overM,overOk_eq];kernel_rfl
 ·obtain ⟨m4,e3,f4⟩:=map_one c4;simp only [sk,el] at f4;have r4:rightS SM m4=true:=td f4.2.2 (by rw [f4.2.1]; kernel_rfl) (ht u3 (by simp) m4 (by simp [e3]));refine ⟨FM,MM0++[mkM [66] vN false],?_⟩;simp only [bg,bp,eh,Nat.reduceAdd,Nat.reduceLeDiff,if_true,membersS,unitOk,a1,a3,b1,b3,c1,c3,d1,d3,e1,e2,e3,e4,methsS,methOk,f1.1,f1.2.1,f1.2.2,f2.1,f2.2.1,f2.2.2,f3.1,f3.2.1,f3.2.2,r1,r2,r3,f4.1,f4.2.1,f4.2.2,r4,methE,b0,f8,dz,List.all_nil,overS,overM,overOk_eq];kernel_rfl
end Go.Abs.Zm

namespace Go.Abs.Zm
open Go.Abs.Zd Go.Abs.Zh
section
variable {S:List (Str × Str)}
end
def namesM:List Str:=SM.map (·.1)
theorem getE_names {c:Str} (h:gg SM c≠none):c ∈ namesM:=by
 have:∀ S:List (Str × Str),gg S c≠none→c ∈ S.map (·.1):=by
  intro S;induction S with
  | nil=>intro h; exact absurd rfl h
  | cons x S ih =>
   intro h;simp only [gg] at h;split at h
   ·rename_i e; rw [← e]; simp
   ·exact bu _ (ih h)
 exact this SM h
end Go.Abs.Zm

namespace Go.Abs.Zo
open Go.Abs.Zd Go.Abs.Zh
open Go.Abs.Zm hiding T sub
variable {os O:List AObj} {b w:Nat}
theorem subH:∀ g f,Zh.T g=some f→Zo.T g=some f:=fun g f h=>Zo.sub g f (Zm.sub g f h)
end Go.Abs.Zo

namespace Go.Abs.Zh
open Go.Abs.Zd
variable {os O:List AObj} {b w:Nat}
def gl (W:List UnitU) (n:Str):Option UnitU:=W.find? fun u=>decide (u.name=n)
def zeroU:List AVal:=[.str [],.str [],.slice none 0 (some 0),.slice none 0 (some 0)]
def cellsO:Option UnitU→List AVal
 | some u=>u.cells
 | none=>zeroU
section
attribute [-simp] getElem?_pos getElem?_neg
theorem l160 {W:List UnitU} {a:Option (Nat × Nat)} {c:Option Nat} (hR:Row O 4 UnitU.cells W a) (hl:W.length≤9223372036854775807) {n:Str}:∀ (j i:Nat) (w:Nat),i+j=W.length→∀ (k:AExit→St→Option (AVal × Heap)),
  xK T (.loop code160L0) ⟨[(1,.val (.str n)),(4,.var zeroU),(8,.val (.slice a W.length c)),(9,.val (.int .i64 W.length)),(10,.val (.int .i64 i))],⟨O,b,w⟩⟩ (k:=⟨k⟩) =
  match gl (W.drop i) n with
  | some u=>k .ret ⟨[(4,.var u.cells),(5,.val (.bool true))],⟨O,b,w⟩⟩
  | none=>k (.exit 0) ⟨[(4,.var zeroU)],⟨O,b,w⟩⟩
 | 0,i,w,hi,k=>by rw [ce,br (by omega)];simp (disch:=omega) [code160L0,iltF,gl]
 | j+1,i,w,hi,k=>by
  obtain ⟨u,hu⟩:∃ u,W[i]? = some u:=⟨_,ah (by omega)⟩;obtain ⟨p,o,cs,rfl,hpp,hpl,hcs,ht⟩:=jt hR hu
  have hd:W.drop i=u :: W.drop (i+1):=by have:=aj hu;rw [ah this] at hu;rw [eu this,dl hu]
  have ih:=l160 (c:=c) hR hl (n:=n) j (i+1) w (by omega) k;have e2:((i+1:Nat):Int)=(i:Int)+1:=by omega
  rw [e2] at ih;have hcu:u.cells=[.str u.name,.str u.super,.slice u.fa u.fields.length u.fc,.slice u.ma u.meths.length u.mc]:=rfl;rw [hcu] at ht;rw [ce,hd];unfold gl at ih ⊢;rw [List.find?_cons];unfold zeroU at ih ⊢;by_cases e:u.name=n
  ·simp only [e,decide_true];generalize ACode.loop code160L0=L;simp (disch:=omega) [gz,gs,code160L0,nltT,nltF,iltT,ileT,nleT,dg,hpp,ht,e,hcu]
  ·simp only [e,decide_false];rw [← ih];generalize ACode.loop code160L0=L;simp (disch:=omega) [gz,gs,code160L0,nltT,nltF,iltT,ileT,nleT,dg,hpp,ht,e,hcu]
end
theorem nl {W:List UnitU} {n:Str} {u:UnitU} (h:gl W n=some u):u ∈ W∧u.name=n:=by unfold gl at h;exact ⟨List.mem_of_find?_eq_some h,by simpa using List.find?_some h⟩
theorem s160 {W:List UnitU} {a:Option (Nat × Nat)} {c:Option Nat} (hR:Row O 4 UnitU.cells W a) (hl:W.length≤9223372036854775807) (hok:∀ u ∈ W,u.low O.length) {n:Str} :
  xCall T 160 [.slice a W.length c,.str n] ⟨O,b,w⟩=some (.tuple [.agg (cellsO (gl W n)),.bool (gl W n).isSome],⟨O,b,w⟩):=by
 have hk:=fun w=>l160 (b:=b) (c:=c) hR hl (n:=n) W.length 0 w (by omega)
 simp only [bh,dy] at hk;cases hf:gl W n with
 | none =>
  rw [hf] at hk;simp only [zeroU] at hk;simp (disch:=omega) [-getElem?_pos,-getElem?_neg,gz,gs,av t160,code160,hk,cellsO,zeroU]
 | some u =>
  rw [hf] at hk;obtain ⟨hf1,hf2⟩:=hok u (nl hf).1;have h1:=under_val (n:=O.length) (m:=u.fields.length) (c:=u.fc) hf1;have h2:=under_val (n:=O.length) (m:=u.meths.length) (c:=u.mc) hf2;have hcu:u.cells=[.str u.name,.str u.super,.slice u.fa u.fields.length u.fc,.slice u.ma u.meths.length u.mc]:=rfl;simp only [zeroU,hcu] at hk;simp (disch:=omega) [-getElem?_pos,-getElem?_neg,gz,gs,av t160,code160,hk,cellsO,hcu,h1,h2]
def thereU (W:List UnitU) (t:Str):Bool:=match classOf (bare t) with
 | some c=>(gl W c).isSome
 | none=>true
section
attribute [-simp] getElem?_pos getElem?_neg
theorem l159 {v:AVal}:∀ (t:Str) (w:Nat),t.length≤9223372036854775807→∀ (k:AExit→St→Option (AVal × Heap)),
  xK T (.loop code159L0) ⟨[(0,.val v),(1,.val (.str t))],⟨O,b,w⟩⟩ (k:=⟨k⟩)=k (.exit 0) ⟨[(0,.val v),(1,.val (.str (bare t)))],⟨O,b,w⟩⟩
 | [],w,hn,k=>by rw [ce];simp (disch:=omega) [code159L0,bare]
 | x :: r,w,hn,k=>by
  simp only [bg] at hn;have h0:(0:Int) < (r.length:Int)+1:=by omega
  have h1:(1:Int)≤(r.length:Int)+1:=by omega
  have e1:((x.toNat:Int)=91)=(x=91):=mr x 91 (by omega);have ih:=l159 (v:=v) r w (by omega) k;rw [ce];by_cases c1:x=91
  ·have hb:bare (x :: r)=bare r:=by simp [bare,c1]
   rw [hb,← ih];generalize ACode.loop code159L0=L;simp (disch:=omega) [gz,gs,code159L0,h0,h1,c1]
  ·have hb:bare (x :: r)=x :: r:=by simp [bare,c1]
   rw [hb];generalize ACode.loop code159L0=L;simp (disch:=omega) [gz,gs,code159L0,h0,h1,e1,c1]
end
theorem s159 {W:List UnitU} {a:Option (Nat × Nat)} {c:Option Nat} (hR:Row O 4 UnitU.cells W a) (hl:W.length≤9223372036854775807) (hok:∀ u ∈ W,u.low O.length) {t:Str} (hn:t.length≤9223372036854775807) :
  xCall T 159 [.slice a W.length c,.str t] ⟨O,b,w⟩=some (.bool (thereU W t),⟨O,b,w⟩):=by
 have hk:=fun w=>l159 (O:=O) (b:=b) (v:=.slice a W.length c) t w hn
 have hb:=rf t;have h33:=fun w=>s33 (os:=O) (b:=b) (w:=w) (s:=bare t) (by omega)
 have h160:=fun w n=>s160 (b:=b) (w:=w) (c:=c) hR hl hok (n:=n)
 rw [pp] at h33;have hz:∀ n,(cellsO (gl W n)).length=4:=fun n=>by cases gl W n <;> rfl
 unfold thereU;cases hc:classOf (bare t) with
 | none=>rw [hc] at h33; simp (disch:=omega) [-getElem?_pos,-getElem?_neg,gz,gs,av t159,code159,hk,h33,h160,hz]
 | some q=>rw [hc] at h33; simp (disch:=omega) [-getElem?_pos,-getElem?_neg,gz,gs,av t159,code159,hk,h33,h160,hz]
end Go.Abs.Zh

namespace Go.Abs.Zh
open Go.Abs.Zd
variable {os O:List AObj} {b w:Nat}
theorem ib_iff (c:UInt8):∀ s:Str,0≤Lib.indexByte s c ↔ ∃ x ∈ s,x=c
 | []=>by simp [Lib.indexByte]
 | x :: s=>by
  have ih:=ib_iff c s;have hge:=Lib.indexByte_ge s c;unfold Lib.indexByte;by_cases e:x=c
  ·simp [e]
  ·have e':(x == c)=false:=by simpa using e
   rw [e'];simp only [am,if_false,cg,exists_eq_or_imp,e,false_or,← ih];by_cases h1:Lib.indexByte s c = -1
   ·simp [h1]
   ·have h2:(Lib.indexByte s c == -1)=false:=by simpa using h1
    rw [h2];simp only [am,if_false];omega
theorem ib_any (c:UInt8) (s:Str):decide (0≤Lib.indexByte s c)=s.any fun x=>decide (x=c):=by rw [ml,decide_eq_true_eq,ib_iff];simp
section
attribute [-simp] getElem?_pos getElem?_neg
theorem l158 {s:Str} (hn:s.length≤9223372036854775807):∀ (j i:Nat) (w:Nat),i+j=s.length→∀ (k:AExit→St→Option (AVal × Heap)),
  xK T (.loop code158L0) ⟨[(0,.val (.str s)),(3,.val (.int .i64 i))],⟨O,b,w⟩⟩ (k:=⟨k⟩) =
  if (s.drop i).any (fun x=>decide (x=47)) then k .ret ⟨[(2,.val (.bool false))],⟨O,b,w⟩⟩ else k (.exit 0) ⟨[(0,.val (.str s))],⟨O,b,w⟩⟩
 | 0,i,w,hi,k=>by rw [ce,br (by omega)];simp (disch:=omega) [code158L0,iltF]
 | j+1,i,w,hi,k=>by
  obtain ⟨x,hx⟩:∃ x,s[i]? = some x:=⟨_,ah (by omega)⟩
  have hd:s.drop i=x :: s.drop (i+1):=by have:=aj hx;rw [ah this] at hx;rw [eu this,dl hx]
  have ih:=l158 hn j (i+1) w (by omega) k;have e2:((i+1:Nat):Int)=(i:Int)+1:=by omega
  rw [e2] at ih;have e1:((x.toNat:Int)=47)=(x=47):=mr x 47 (by omega);rw [ce,hd];simp only [List.any_cons];generalize ACode.loop code158L0=L at ih ⊢;by_cases c:x=47
  ·simp (disch:=omega) [gz,gs,code158L0,hx,iltT,ileT,nltT,nleT,dg,c]
  ·simp (disch:=omega) [-List.any_eq_true,gz,gs,code158L0,hx,e1,iltT,ileT,nltT,nleT,dg,c,ih]
end
theorem s158 {s:Str} (hn:s.length≤9223372036854775807):xCall T 158 [.str s] ⟨O,b,w⟩=some (.bool (isName s),⟨O,b,w⟩):=by
 have hl:=fun w k=>l158 (O:=O) (b:=b) hn s.length 0 w (by omega) k
 simp only [bh,dy] at hl;have h26:=fun w=>s26 (os:=O) (b:=b) (w:=w) hn
 unfold isName;rw [ib_any];rcases aw (s.any fun x=>decide (x=47)) with c | c
 ·simp only [c,if_true] at hl ⊢;simp (disch:=omega) [-getElem?_pos,-getElem?_neg,gz,gs,av t158,code158,hl]
 ·simp only [c,am,if_false] at hl ⊢;simp (disch:=omega) [-getElem?_pos,-getElem?_neg,gz,gs,av t158,code158,hl,h26]
def goL (W:List UnitU):Nat→Option UnitU→List UnitU
 | 0,_=>[]
 | _+1,none=>[]
 | k+1,some v=>v :: goL W k (gl W v.super)
def iu (W:List UnitU) (k:Nat) (n:Str):List UnitU:=goL W k (gl W n)
theorem ids_slice {n m:Nat} {a:Option (Nat × Nat)} {c:Option Nat} (h:under n a):∀ i ∈ (AVal.slice a m c).ids,i < n:=by
 cases a with
 | none=>simp [AVal.ids]
 | some p=>obtain ⟨j,o⟩:=p; simp only [AVal.ids,ef]; rintro i rfl; exact h _ _ rfl
theorem ids_unit {n:Nat} {u:UnitU} (h:u.low n):∀ i ∈ AVal.idsL u.cells,i < n:=by
 intro i hi;simp only [UnitU.cells,AVal.idsL,AVal.ids,bw,cq,bz] at hi;rcases hi with hi | hi
 ·exact ids_slice h.f i hi
 ·exact ids_slice h.m i hi
theorem yi {n:Nat}:∀ {L:List UnitU},(∀ u ∈ L,u.low n)→∀ i ∈ AVal.idsL (L.flatMap UnitU.cells),i < n
 | [],_=>by simp [AVal.idsL]
 | u :: L,h=>by
  intro i hi;rw [cj,pb,bz] at hi;rcases hi with hi | hi
  ·exact ids_unit (h u (bi ..)) i hi
  ·exact yi (fun v hv=>h v (bu _ hv)) i hi
theorem va {m:Nat} {a:Option (Nat × Nat)} {c:Option Nat}:(AVal.slice a m c).ids.length≤1:=by
 cases a with
 | none=>simp [AVal.ids]
 | some p=>simp [AVal.ids]
theorem qn:∀ {L:List UnitU},(AVal.idsL (L.flatMap UnitU.cells)).length≤2*L.length
 | []=>by simp [AVal.idsL]
 | u :: L=>by
  have ih:=qn (L:=L);have h1:=va (m:=u.fields.length) (a:=u.fa) (c:=u.fc);have h2:=va (m:=u.meths.length) (a:=u.ma) (c:=u.mc);rw [cj,pb,aq,bg]
  have:(AVal.idsL u.cells).length=(AVal.slice u.fa u.fields.length u.fc).ids.length+(AVal.slice u.ma u.meths.length u.mc).ids.length:=by simp only [UnitU.cells,AVal.idsL,aq,bp,jj];simp [AVal.ids]
  omega
theorem ren_slice {n m:Nat} {a:Option (Nat × Nat)} {c:Option Nat} {f:Nat→Nat} (hf:∀ i,i < n→f i=i) (h:under n a):(AVal.slice a m c).ren f = .slice a m c:=by
 cases a with
 | none=>simp [AVal.ren]
 | some p=>obtain ⟨j,o⟩:=p; simp [AVal.ren,hf j (h _ _ rfl)]
theorem ren_unit {n:Nat} {u:UnitU} {f:Nat→Nat} (hf:∀ i,i < n→f i=i) (h:u.low n):AVal.renL f u.cells=u.cells:=by simp only [UnitU.cells,AVal.renL,ren_slice hf h.f,ren_slice hf h.m];simp [AVal.ren]
theorem yj {n:Nat} {f:Nat→Nat} (hf:∀ i,i < n→f i=i):∀ {L:List UnitU},(∀ u ∈ L,u.low n)→AVal.renL f (L.flatMap UnitU.cells)=L.flatMap UnitU.cells
 | [],_=>rfl
 | u :: L,h=>by rw [cj,xe,ren_unit hf (h u (bi ..)),yj hf fun v hv=>h v (bu _ hv)]
theorem yk {h:Heap} {n0:Nat} {acc:List Nat}:∀ (l:List Nat) (f:Nat),l.length < f→(∀ i ∈ l,i < n0)→reach h n0 f l acc=acc
 | [],f+1,_,_=>rfl
 | i :: l,f+1,hf,hl=>by rw [jc,if_pos (hl i (bi ..))];exact yk l f (by simp at hf; omega) fun j hj=>hl j (bu _ hj)
def rowV (n:Nat) (L:List UnitU):AVal:=if L=[] then .slice none 0 (some 0) else .slice (some (n,0)) L.length none
def rowO (O:List AObj) (L:List UnitU):List AObj:=if L=[] then O else O++[.cells 4 (L.flatMap UnitU.cells)]
theorem row_fin {G:List AObj} {L:List UnitU} {w0 w2:Nat} (hne:L≠[]) (hl:L.length≤400) (hlow:∀ u ∈ L,u.low O.length) (hw:O.length≤w2) :
  dx ⟨O,b,w0⟩ (.slice (some (O.length+G.length,0)) L.length none) ⟨O++(G++[.cells 4 (L.flatMap UnitU.cells)]),b,w2⟩=(.slice (some (O.length,0)) L.length none,⟨O++[.cells 4 (L.flatMap UnitU.cells)],b,w0⟩):=by
 have hg:(O++(G++[AObj.cells 4 (L.flatMap UnitU.cells)]))[O.length+G.length]? = some (.cells 4 (L.flatMap UnitU.cells)):=by rw [d8,dj]; rfl
 have hlen:=qn (L:=L);have hids:=yi hlow
 have hr:reach ⟨O++(G++[AObj.cells 4 (L.flatMap UnitU.cells)]),b,w2⟩ O.length 1000 [O.length+G.length] []=[O.length+G.length]:=by rw [jc,if_neg (by omega),if_neg (by simp)];simp only [Heap.get,hg,cf,cr,idsC,cq,bw];exact yk _ _ (by omega) hids
 have hv:AVal.under O.length (.slice (some (O.length+G.length,0)) L.length none)=false:=by simp [AVal.under]
 have hw2:(⟨O,b,w0⟩:Heap).size≤(⟨O++(G++[AObj.cells 4 (L.flatMap UnitU.cells)]),b,w2⟩:Heap).wmin:=hw;refine (nk hw2 hv hr fun i hi=>?_).trans ?_
 ·simp only [AVal.ids,cj,ju,Heap.get,hg,cf,cr,idsC,cq,ci,bw,cg] at hi;rcases hi with rfl | hi
  ·exact .inr (fp _)
  ·exact .inl (hids i hi)
 ·have hfv:(fun i=>if i < O.length then i else O.length+idxIn i [O.length+G.length]) (O.length+G.length)=O.length:=by
   show (if O.length+G.length < O.length then _ else _)=_
   rw [if_neg (by omega)]; simp [idxIn]
  have hren:AVal.renL (fun i=>if i < O.length then i else O.length+idxIn i [O.length+G.length]) (L.flatMap UnitU.cells)=L.flatMap UnitU.cells:=yj (n:=O.length) (fun i hi=>if_pos hi) hlow
  have key:∀ f:Nat→Nat,f (O.length+G.length)=O.length→AVal.renL f (L.flatMap UnitU.cells)=L.flatMap UnitU.cells →
    ((AVal.slice (some (O.length+G.length,0)) L.length none).ren f,(⟨O++[O.length+G.length].map fun i=>(((⟨O++(G++[AObj.cells 4 (L.flatMap UnitU.cells)]),b,w2⟩:Heap).get i).map (AObj.ren f)).getD .dead,b,w0⟩:Heap)) =
     (.slice (some (O.length,0)) L.length none,⟨O++[.cells 4 (L.flatMap UnitU.cells)],b,w0⟩):=by
   intro f h1 h2;simp only [AVal.ren,Heap.get,hg,cf,cr,b0,f8,renC,h1,h2]
  exact key _ hfv hren
def accV (n:Nat) (A:List UnitU):AVal:=if A=[] then .slice none 0 (some 0) else .slice (some (n,0)) A.length none
def accR (A:List UnitU):List AObj:=if A=[] then [] else [.cells 4 (A.flatMap UnitU.cells)]
theorem v5 (u:Option UnitU):(cellsO u).length=4:=by cases u <;> rfl
section
attribute [-simp] getElem?_pos getElem?_neg
theorem l112 {W:List UnitU} {a:Option (Nat × Nat)} {c:Option Nat} (hR:Row O 4 UnitU.cells W a) (hl:W.length≤200) (hok:∀ u ∈ W,u.low O.length) (hb:b≤O.length):∀ (j:Nat) (u:Option UnitU) (A:List UnitU) (G:List AObj) (w:Nat),A.length+j=W.length+1→O.length≤w →
  ∃ G' w',O.length≤w'∧∀ (k:AExit→St→Option (AVal × Heap)),
  xK T (.loop code112L0) ⟨[(0,.val (.slice a W.length c)),(5,.val (accV (O.length+G.length) A)),(6,.var (cellsO u)),(7,.val (.bool u.isSome))],⟨O++(G++accR A),b,w⟩⟩ (k:=⟨k⟩) =
  k (.exit 0) ⟨[(5,.val (accV (O.length+G'.length) (A++goL W j u)))],⟨O++(G'++accR (A++goL W j u)),b,w'⟩⟩
 | j,none,A,G,w,hj,hw=>by
  refine ⟨G,w,hw,fun k=>?_⟩;have e:goL W j none=[]:=by cases j <;> rfl
  rw [ce,e,cq];generalize accV (O.length+G.length) A=v;simp (disch:=omega) [code112L0]
 | 0,some u,A,G,w,hj,hw=>by
  refine ⟨G,w,hw,fun k=>?_⟩;have hne:A≠[]:=by rintro rfl; simp at hj
  have hlt:¬ ((A.length:Int)≤W.length):=by omega
  rw [ce,show goL W 0 (some u)=[] from rfl,cq];simp only [accV,hne,if_false];simp (disch:=omega) [code112L0,hlt]
 | j+1,some u,A,G,w,hj,hw=>by
  have hle:((A.length:Int)≤W.length):=by omega
  have hcl:u.cells.length=4:=rfl;have hcz:cellsO (some u)=u.cells:=rfl;have h160:=fun X w=>s160 (O:=O++X) (b:=b) (w:=w) (c:=c) ((Pre.app O X).row hR) (by omega) (fun v hv=>⟨(hok v hv).f.le (by simp),(hok v hv).m.le (by simp)⟩) (n:=u.super)
  have hcz2:=v5 (gl W u.super);have hcu:u.cells=[.str u.name,.str u.super,.slice u.fa u.fields.length u.fc,.slice u.ma u.meths.length u.mc]:=rfl;have hb1:b≤O.length+G.length:=by omega
  by_cases hA:A=[]
  ·subst hA;obtain ⟨G',w',r1,ih⟩:=l112 (c:=c) hR hl hok hb j (gl W u.super) [u] (G++[.cells 4 u.cells]) w (by simp only [f9,bp] at hj ⊢; omega) hw;refine ⟨G',w',r1,fun k=>?_⟩;have ih:=ih k;have e:[u]++goL W j (gl W u.super)=[]++goL W (j+1) (some u):=rfl;rw [e] at ih;rw [ce,← ih];generalize ACode.loop code112L0=L;simp only [accV,accR,if_true,cq,List.cons_ne_self,if_false,f9,aq,bl,cj,ju,hcz,reduceCtorEq];simp only [bp] at hle;generalize cellsO (gl W u.super)=z at h160 hcz2 ⊢;simp (disch:=omega) [gz,gs,code112L0,h160,hle,hcu,hcz2,d8,dj,ir,gv,nltT,nltF,iltT,ileT,nleT,bo]
  ·have hA0:A.length≠0:=fun e=>hA (bc e)
   obtain ⟨G',w',r1,ih⟩:=l112 (c:=c) hR hl hok hb j (gl W u.super) (A++[u]) (G++[.dead,.cells 4 u.cells]) (min w (O.length+G.length)) (by simp only [aq,f9]; omega) (by omega);refine ⟨G',w',r1,fun k=>?_⟩;have ih:=ih k;have e:A++[u]++goL W j (gl W u.super)=A++goL W (j+1) (some u):=by rw [bl]; rfl
   rw [e] at ih;have hC:(A.flatMap UnitU.cells).length=A.length*4:=pa UnitU.cells 4 (fun _=>rfl) A;have hT:(A.flatMap UnitU.cells).take (A.length*4)=A.flatMap UnitU.cells:=ff (by omega);have hA2:A++[u]≠[]:=by simp
   have z1:(A.length+1)*80≤140737488355328:=by omega
   have z2:A.length≤9223372036854775806:=by omega
   rw [ce,← ih];generalize ACode.loop code112L0=L;simp only [accV,accR,hA,hA2,if_false,f9,aq,bl,iz,cj,ju,cq,hcz,ci,bw,bg,bp];generalize A.flatMap UnitU.cells=C at hC hT ⊢;generalize cellsO (gl W u.super)=z at h160 hcz2 ⊢;simp (disch:=omega) [gz,gs,code112L0,h160,hle,hcu,hcz2,hC,hT,hA0,hb1,z1,z2,d8,dj,ir,gv,nltT,nltF,iltT,ileT,nleT,bo]
end
theorem ux (W:List UnitU):∀ (j:Nat) (u:Option UnitU),(goL W j u).length≤j
 | 0,_=>ai _
 | _+1,none=>by simp [goL]
 | j+1,some v=>by have:=ux W j (gl W v.super);simp only [goL,bg]; omega
theorem goL_mem {W:List UnitU}:∀ {j:Nat} {u:Option UnitU},(∀ v,u=some v→v ∈ W)→∀ v ∈ goL W j u,v ∈ W
 | 0,_,_,v,hv=>by simp [goL] at hv
 | _+1,none,_,v,hv=>by simp [goL] at hv
 | j+1,some x,h,v,hv=>by
  simp only [goL,cg] at hv;rcases hv with rfl | hv
  ·exact h _ rfl
  ·exact goL_mem (fun y hy=>(nl hy).1) v hv
theorem lineU_mem {W:List UnitU} {k:Nat} {n:Str} {v:UnitU} (h:v ∈ iu W k n):v ∈ W:=goL_mem (fun _ hy=>(nl hy).1) v h
theorem s112 {W:List UnitU} {a:Option (Nat × Nat)} {c:Option Nat} (hR:Row O 4 UnitU.cells W a) (hl:W.length≤200) (hok:∀ u ∈ W,u.low O.length) (hb:b≤O.length) {n:Str} :
  xCall T 112 [.slice a W.length c,.str n] ⟨O,b,w⟩=some (rowV O.length (iu W (W.length+1) n),⟨rowO O (iu W (W.length+1) n),b,w⟩):=by
 have h160:=fun w=>s160 (b:=b) (w:=w) (c:=c) hR (by omega) hok (n:=n)
 obtain ⟨G',w',r1,hk⟩:=l112 (b:=b) (c:=c) hR hl hok hb (W.length+1) (gl W n) [] [] O.length (by simp) (ai _);have hz:=v5 (gl W n);have hlen:=ux W (W.length+1) (gl W n);have hmem:∀ v ∈ iu W (W.length+1) n,v.low O.length:=fun v hv=>hok v (lineU_mem hv)
 unfold iu at hmem ⊢;simp only [bw,cq,bp,jj,accV,accR,if_true] at hk;generalize gl W n=u at *;generalize goL W (W.length+1) u=L at *;by_cases hL:L=[]
 ·subst hL;simp only [if_true,cq] at hk;simp (disch:=omega) [-getElem?_pos,-getElem?_neg,gz,gs,av t112,code112,h160,hz,hk,rowV,rowO];intro h; omega
 ·simp only [hL,if_false] at hk;have hf:=fun w0=>row_fin (b:=b) (G:=G') (w0:=w0) hL (by omega) hmem r1
  simp (disch:=omega) [-getElem?_pos,-getElem?_neg,-dx,gz,gs,av t112,code112,h160,hz,hk,hf,hL,rowV,rowO]
end Go.Abs.Zh

namespace Go.Abs.Zh
open Go.Abs.Zd
variable {os O H:List AObj} {b w:Nat}
theorem row_rowO {O:List AObj} {L:List UnitU}:Row (rowO O L) 4 UnitU.cells L (if L=[] then none else some (O.length,0)):=by
 by_cases h:L=[]
 ·subst h; exact ⟨fun h=>absurd rfl h⟩
 ·simp only [rowO,h,if_false];exact Row.mk0 (fun _=>rfl) (by rw [dj]; rfl)
theorem xk (n:Nat) (L:List UnitU):rowV n L = .slice (if L=[] then none else some (n,0)) L.length (if L=[] then some 0 else none):=by unfold rowV;split <;> simp_all
theorem rowO_pre (O:List AObj) (L:List UnitU):Pre O (rowO O L):=by
 unfold rowO;split
 ·exact Pre.refl _
 ·exact Pre.app _ _
theorem jn {α:Type} {L:List α} {i:Nat} {x:α} (h:L[i]? = some x):L.drop i=x :: L.drop (i+1):=by have:=aj h;rw [ah this] at h;rw [eu this,dl h]
def fieldAt (L:List FieldU) (n d:Str):Option FieldU:=L.find? fun x=>decide (x.name=n) && decide (x.desc=d)
def methAt (L:List MethU) (n d:Str):Option MethU:=L.find? fun x=>decide (x.name=n) && decide (x.desc=d)
end Go.Abs.Zh
