/-
  Texts joined.
-/
import Derived.Test.YtjmnbfijplhkfaaGreatDoorP0
import Derived.Test.YtjmnbfijplhkfaaGreatDoorP6
import Derived.KernelRfl
import Derived.Test.YtjmnbfijplhkfaaGreatDoorP4
set_option linter.unusedVariables false
set_option linter.unusedSimpArgs false
set_option maxRecDepth 100000
namespace Go.Abs.Zm
open Go.Abs.Zd Go.Abs.Zh
variable {os O B:List AObj} {b w:Nat} {tN:Nat} {tb:List UInt8} {tv:AVal} {n k:Nat} {dep:Int}
section
attribute [-simp] getElem?_pos getElem?_neg List.all_eq_true
attribute [local simp] gz gs nltT nltF iltT iltF ileT nleT de
theorem sw151 (hb:b≤tN) {d:Nat} {x:Int} (hx:-9≤x) (hx2:x≤9) (h:Ws tN tb tv B O n k dep) {j:Nat} (hj1:1≤j) (hk:k+j≤100000) {r:Nat} (hr:r < 16) (hrj:4≤r→2*KK d+1≤j)
  (hi:4≤r→Expr tN tb tv B b dep 151 (x - 1) (KK d)) (hl:4≤r→Expr tN tb tv B b dep 183 (x - 1) (KK d)) :
  ∃ O' m n',n≤n'∧Ws tN tb tv B O' n' (k+j) dep∧tN≤m∧m≤B.length∧∀ (w:Nat) (c:AExit→St→Option (AVal × Heap)),
   xK T code151B0 ⟨[(0,.val (.ptr (some (B.length,0)))),(1,.val (.int .i64 x)),(29,.val (.int .i64 r))],⟨O,b,w⟩⟩ (k:=⟨c⟩)=c .normal ⟨[],⟨O',b,min w m⟩⟩:=by
 have hKd:=KK_pos d;have hx1:IntKind.i64.wrap (x - 1)=x - 1:=de (by omega);obtain ⟨pc,pt,px,cc,ct,cx,nt,nx',bud,hat,_⟩:=h.at';obtain ⟨hlt,hBO⟩:=h.len;have e0:r=0∨r=1∨r=2∨r=3∨(4≤r∧r≤7)∨r=8∨r=9∨r=10∨r=11∨r=12∨r=13∨r=14∨r=15:=by omega
 rcases e0 with rfl | rfl | rfl | rfl | h4 | rfl | rfl | rfl | rfl | rfl | rfl | rfl | rfl
 ·obtain ⟨r2,O1,nx,g1,g2,g3,g4,g5,g6⟩:=h.next hb (x:=3) (by decide) (by decide)
  obtain ⟨O2,m2,p2,l2,u2,e2⟩:=s150 g2 hb (by omega) (op:=21) (nn:=r2);obtain ⟨m',q1,q2,q3⟩:=jg g5 l2;refine ⟨O2,m',n+1,by omega,p2.le (by omega),q1,by omega,fun w c=>?_⟩;simp (disch:=omega) [code151B0,hat,g6,e2,q3]
 ·obtain ⟨r2,O1,nx,g1,g2,g3,g4,g5,g6⟩:=h.next hb (x:=3) (by decide) (by decide)
  obtain ⟨O2,m2,p2,l2,u2,e2⟩:=s150 g2 hb (by omega) (op:=21) (nn:=r2);obtain ⟨m',q1,q2,q3⟩:=jg g5 l2;refine ⟨O2,m',n+1,by omega,p2.le (by omega),q1,by omega,fun w c=>?_⟩;simp (disch:=omega) [code151B0,hat,g6,e2,q3]
 ·obtain ⟨r2,O1,nx,g1,g2,g3,g4,g5,g6⟩:=h.next hb (x:=256) (by decide) (by decide)
  obtain ⟨O2,m2,p2,l2,u2,e2⟩:=s153 g2 hb (by omega) (x:=r2 - 100) (by omega) (by omega);obtain ⟨m',q1,q2,q3⟩:=jg g5 l2;refine ⟨O2,m',n+1,by omega,p2.le (by omega),q1,by omega,fun w c=>?_⟩;simp (disch:=omega) [code151B0,hat,g6,e2,q3]
 ·obtain ⟨O2,m2,p2,l2,u2,e2⟩:=s154 h hb (by omega) (op:=178) (c:=[77,97,105,110]) (m:=[115]) (d:=[73]) (by decide) (by decide) (by decide);refine ⟨O2,m2,n+1,by omega,p2.le (by omega),l2,u2,fun w c=>?_⟩;simp (disch:=omega) [code151B0,hat,e2]
 ·have hrj:=hrj h4.1;have hi:=hi h4.1;obtain ⟨O1,m1,⟨n1,k1,p1⟩,l1,u1,e1⟩:=hi O n k h (by omega);obtain ⟨O2,m2,⟨n2,k2,p2⟩,l2,u2,e2⟩:=hi O1 n1 _ p1 (by omega);obtain ⟨r2,O3,nx,g1,g2,g3,g4,g5,g6⟩:=(p2.app [.cells 1 (acts151.map (AVal.int .u8))]).next hb (x:=10) (by decide) (by decide)
  obtain ⟨y,hy⟩:=pj acts151 (r:=r2) (by simp only [acts151,az,bf]; omega);obtain ⟨O4,m4,p4,l4,u4,e4⟩:=s150 g2 hb (by omega) (op:=y) (nn:=0);obtain ⟨m',q1,q2,q3⟩:=jg g5 l4;obtain ⟨_,_,_,_,_,_,_,_,_,hat2,_⟩:=p2.at';have hlen2:=p2.len;have hat2:=fun X=>(ag (l₂:=X) hlen2.2).trans hat2
  have g7:=g4 O2.length (by omega);rw [dp] at g7;simp only [acts151,cf,fm] at g6 g7 hy;have hc:(r:Int)=4∨(r:Int)=5∨(r:Int)=6∨(r:Int)=7:=by omega
  refine ⟨O4,min m1 (min m2 m'),n2+1,by omega,p4.le (by omega),by omega,by omega,fun w c=>?_⟩;rcases hc with hc | hc | hc | hc <;> simp (disch:=omega) [code151B0,hc,hx1,e1,e2,hat2,g6,g7,hy,e4,q3,cr]
 ·have hrj:=hrj (by decide);obtain ⟨O1,m1,⟨n1,k1,p1⟩,l1,u1,e1⟩:=hl (by decide) O n k h (by omega);obtain ⟨O2,m2,p2,l2,u2,e2⟩:=s150 p1 hb (by omega) (op:=136) (nn:=0);refine ⟨O2,min m1 m2,n1+1,by omega,p2.le (by omega),by omega,by omega,fun w c=>?_⟩;simp (disch:=omega) [code151B0,hx1,e1,e2,cr]
 ·have hrj:=hrj (by decide);obtain ⟨O1,m1,p1,l1,u1,e1⟩:=s150 h hb (by omega) (op:=25) (nn:=6);obtain ⟨O2,m2,⟨n2,k2,p2⟩,l2,u2,e2⟩:=hi (by decide) O1 _ _ p1 (by omega);obtain ⟨O3,m3,p3,l3,u3,e3⟩:=s150 p2 hb (by omega) (op:=46) (nn:=0);refine ⟨O3,min m1 (min m2 m3),n2+1,by omega,p3.le (by omega),by omega,by omega,fun w c=>?_⟩;simp (disch:=omega) [code151B0,hx1,e1,e2,e3,cr]
 ·have hrj:=hrj (by decide);obtain ⟨O1,m1,p1,l1,u1,e1⟩:=s150 h hb (by omega) (op:=25) (nn:=5);obtain ⟨O2,m2,p2,l2,u2,e2⟩:=s154 p1 hb (by omega) (op:=180) (c:=[65]) (m:=[102]) (d:=[73]) (by decide) (by decide) (by decide);refine ⟨O2,min m1 m2,n+1+1,by omega,p2.le (by omega),by omega,by omega,fun w c=>?_⟩;simp (disch:=omega) [code151B0,hx1,e1,e2,cr]
 ·have hrj:=hrj (by decide);obtain ⟨O1,m1,p1,l1,u1,e1⟩:=s150 h hb (by omega) (op:=25) (nn:=5);obtain ⟨O2,m2,⟨n2,k2,p2⟩,l2,u2,e2⟩:=hi (by decide) O1 _ _ p1 (by omega);obtain ⟨O3,m3,p3,l3,u3,e3⟩:=s154 p2 hb (by omega) (op:=182) (c:=[65]) (m:=[118]) (d:=[40,73,41,73]) (by decide) (by decide) (by decide);refine ⟨O3,min m1 (min m2 m3),n2+1,by omega,p3.le (by omega),by omega,by omega,fun w c=>?_⟩;simp (disch:=omega) [code151B0,hx1,e1,e2,e3,cr]
 ·have hrj:=hrj (by decide);obtain ⟨O2,m2,⟨n2,k2,p2⟩,l2,u2,e2⟩:=hi (by decide) O _ _ h (by omega);obtain ⟨O3,m3,p3,l3,u3,e3⟩:=s154 p2 hb (by omega) (op:=184) (c:=[77,97,105,110]) (m:=[104,101,108,112]) (d:=[40,73,41,73]) (by decide) (by decide) (by decide);refine ⟨O3,min m2 m3,n2+1,by omega,p3.le (by omega),by omega,by omega,fun w c=>?_⟩;simp (disch:=omega) [code151B0,hx1,e2,e3,cr]
 ·have hrj:=hrj (by decide);obtain ⟨r2,O1,nx,g1,g2,g3,g4,g5,g6⟩:=h.next hb (x:=2) (by decide) (by decide)
  obtain ⟨O2,m2,p2,l2,u2,e2⟩:=s150 g2 hb (by omega) (op:=25) (nn:=6+r2);obtain ⟨O3,m3,p3,l3,u3,e3⟩:=s150 p2 hb (by omega) (op:=190) (nn:=0);obtain ⟨m',q1,q2,q3⟩:=jg g5 l2;refine ⟨O3,min m' m3,n+1+1,by omega,p3.le (by omega),by omega,by omega,fun w c=>?_⟩;simp (disch:=omega) [code151B0,hat,g6,e2,e3,q3,cr]
 ·have hrj:=hrj (by decide);obtain ⟨O1,m1,p1,l1,u1,e1⟩:=s150 h hb (by omega) (op:=25) (nn:=5);obtain ⟨pc,pt,px,cc,ct,cx,nt,nx,bud,cs,h1,h6,h9,h7,hkw,_,_,h8⟩:=p1.put (b:=b) (x:=⟨193,0,0,[66],[],[],[]⟩) hb (by omega) ⟨by decide,by decide,by decide,by decide⟩;simp only [InsU.cells] at h7;refine ⟨_,min m1 B.length,n+1+1,by omega,h8.le (by omega),by omega,by omega,fun w c=>?_⟩;simp (disch:=omega) [code151B0,hx1,e1,-eb,h1,h7,h6,h9,hkw,InsU.cells,cr]
 ·have hrj:=hrj (by decide);obtain ⟨O1,m1,⟨n1,k1,p1⟩,l1,u1,e1⟩:=hl (by decide) O n k h (by omega);obtain ⟨O2,m2,⟨n2,k2,p2⟩,l2,u2,e2⟩:=hl (by decide) O1 n1 _ p1 (by omega);obtain ⟨O3,m3,p3,l3,u3,e3⟩:=s150 p2 hb (by omega) (op:=148) (nn:=0);refine ⟨O3,min m1 (min m2 m3),n2+1,by omega,p3.le (by omega),by omega,by omega,fun w c=>?_⟩;simp (disch:=omega) [code151B0,hx1,e1,e2,e3,cr]
theorem s151_of (hb:b≤tN) {d:Nat} {x:Int} (hx:-9≤x) (hx2:x≤9) {j:Nat} (hj1:1≤j) (hj:0 < x→2*KK d+1≤j)
  (hi:0 < x→Expr tN tb tv B b dep 151 (x - 1) (KK d)) (hl:0 < x→Expr tN tb tv B b dep 183 (x - 1) (KK d)):Expr tN tb tv B b dep 151 x j:=by
 intro O n k h hk;obtain ⟨pc,pt,px,cc,ct,cx,nt,nx',bud,hat,hset⟩:=h.at';obtain ⟨hlt,hBO⟩:=h.len;have h1:=hset dep (IntKind.i64.wrap (bud - 1));obtain ⟨r,O2,nx,g1,g2,g3,g4,g5,g6⟩:=h1.next hb (x:=16) (by decide) (by decide)
 have hat2:=g4 B.length (by omega);rw [db,if_pos rfl,if_pos hBO] at hat2;have hset2:∀ y,(O.set B.length y)[B.length]? = some y:=fun y=>by rw [db,if_pos rfl,if_pos hBO]
 have hr4:(r:Int).tmod 4=((r % 4:Nat):Int):=by rw [Int.tmod_eq_emod_of_nonneg (by omega)]; omega
 by_cases c1:x≤0
 ·obtain ⟨O3,m3,n3,k3,p3,l3,u3,e3⟩:=sw151 (d:=d) hb hx hx2 g2 hj1 hk (r:=r % 4) (by omega) (fun h=>by omega) (fun h=>by omega) (fun h=>by omega);obtain ⟨m',q1,q2,q3⟩:=jg g5 l3;have hmm:min B.length m'=m':=by omega
  refine ⟨O3,m',⟨n3,k3,p3⟩,q1,by omega,fun w=>?_⟩;simp only [Int.natCast_emod,ce] at e3;simp (disch:=omega) [au t151,code151,hat,hset2,g6,hat2,c1,hr4,e3,q3,hmm]
 ·by_cases c2:IntKind.i64.wrap (bud - 1)≤0
  ·obtain ⟨O3,m3,n3,k3,p3,l3,u3,e3⟩:=sw151 (d:=d) hb hx hx2 g2 hj1 hk (r:=r % 4) (by omega) (fun h=>by omega) (fun h=>by omega) (fun h=>by omega);obtain ⟨m',q1,q2,q3⟩:=jg g5 l3;have hmm:min B.length m'=m':=by omega
   refine ⟨O3,m',⟨n3,k3,p3⟩,q1,by omega,fun w=>?_⟩;simp only [Int.natCast_emod,ce] at e3;simp (disch:=omega) [au t151,code151,hat,hset2,g6,hat2,c1,c2,hr4,e3,q3,hmm]
  ·obtain ⟨O3,m3,n3,k3,p3,l3,u3,e3⟩:=sw151 (d:=d) hb hx hx2 g2 hj1 hk (r:=r) (by omega) (fun _=>hj (by omega)) (fun _=>hi (by omega)) (fun _=>hl (by omega));obtain ⟨m',q1,q2,q3⟩:=jg g5 l3;have hmm:min B.length m'=m':=by omega
   refine ⟨O3,m',⟨n3,k3,p3⟩,q1,by omega,fun w=>?_⟩;simp (disch:=omega) [au t151,code151,hat,hset2,g6,hat2,c1,c2,e3,q3,hmm]
end
def acts183:List Int:=[97,101,105,109,127,131,113,129]
def acts183b:List Int:=[121,123,125]
section
attribute [-simp] getElem?_pos getElem?_neg List.all_eq_true
attribute [local simp] gz gs nltT nltF iltT iltF ileT nleT de
theorem s183_of (hb:b≤tN) {i l j:Nat} {x:Int} (hx:-8≤x) (hx2:x≤9) (hj1:i+1≤j) (hj:0 < x→2*l+1≤j∧l+i+1≤j)
  (hi:Expr tN tb tv B b dep 151 (x - 1) i) (hl:0 < x→Expr tN tb tv B b dep 183 (x - 1) l):Expr tN tb tv B b dep 183 x j:=by
 intro O n k h hk;have hx1:IntKind.i64.wrap (x - 1)=x - 1:=de (by omega);obtain ⟨hlt,hBO⟩:=h.len;obtain ⟨_,_,_,_,_,_,_,_,_,hat,_⟩:=h.at';obtain ⟨r,O1,nx1,f1,f2,f3,f4,f5,f6⟩:=h.next hb (x:=6) (by decide) (by decide)
 have hBO1:=f2.len.2;obtain ⟨_,_,_,_,_,_,_,_,_,hat1,_⟩:=f2.at';by_cases c1:0 < x∧r < 2
 ·obtain ⟨c1,c2⟩:=c1;obtain ⟨j1,j2⟩:=hj c1;have hc:(r:Int) < 2:=by omega
  obtain ⟨O2,m2,⟨n2,k2,p2⟩,l2,u2,e2⟩:=hl c1 O1 n k f2 (by omega);obtain ⟨O3,m3,⟨n3,k3,p3⟩,l3,u3,e3⟩:=hl c1 O2 n2 _ p2 (by omega);obtain ⟨r2,O4,nx,g1,g2,g3,g4,g5,g6⟩:=(p3.app [.cells 1 (acts183.map (AVal.int .u8))]).next hb (x:=8) (by decide) (by decide)
  obtain ⟨y,hy⟩:=pj acts183 (r:=r2) (by simp only [acts183,az,bf]; omega);obtain ⟨O5,m5,p5,l5,u5,e5⟩:=s150 g2 hb (by omega) (op:=y) (nn:=0);obtain ⟨m',q1,q2,q3⟩:=jg g5 l5;obtain ⟨m'',q4,q5,q6⟩:=jg f5 l2;obtain ⟨_,_,_,_,_,_,_,_,_,hat3,_⟩:=p3.at';have hlen3:=p3.len;have hat3:=fun X=>(ag (l₂:=X) hlen3.2).trans hat3
  have g7:=g4 O3.length (by omega);rw [dp] at g7;simp only [acts183,cf,fm] at g6 g7 hy;refine ⟨O5,min m'' (min m3 m'),⟨n3+1,by omega,p5.le (by omega)⟩,by omega,by omega,fun w=>?_⟩;have hmm:∀ w,min w (min O.length (min m'' (min m3 m')))=min w (min m'' (min m3 m')):=fun w=>by omega
  rw [au t183]; simp (disch:=omega) [code183,code183B0,hat,f6,c1,hc,hx1,e2,e3,hat3,g6,g7,hy,e5,q3,q6,hmm,cr]
 ·by_cases c2:0 < x∧r=2
  ·obtain ⟨c2,rfl⟩:=c2;obtain ⟨j1,j2⟩:=hj c2;obtain ⟨O2,m2,⟨n2,k2,p2⟩,l2,u2,e2⟩:=hl c2 O1 n k f2 (by omega);obtain ⟨O3,m3,⟨n3,k3,p3⟩,l3,u3,e3⟩:=hi O2 n2 _ p2 (by omega);obtain ⟨r2,O4,nx,g1,g2,g3,g4,g5,g6⟩:=(p3.app [.cells 1 (acts183b.map (AVal.int .u8))]).next hb (x:=3) (by decide) (by decide)
   obtain ⟨y,hy⟩:=pj acts183b (r:=r2) (by simp only [acts183b,az,bf]; omega);obtain ⟨O5,m5,p5,l5,u5,e5⟩:=s150 g2 hb (by omega) (op:=y) (nn:=0);obtain ⟨m',q1,q2,q3⟩:=jg g5 l5;obtain ⟨m'',q4,q5,q6⟩:=jg f5 l2;obtain ⟨_,_,_,_,_,_,_,_,_,hat3,_⟩:=p3.at';have hlen3:=p3.len;have hat3:=fun X=>(ag (l₂:=X) hlen3.2).trans hat3
   have g7:=g4 O3.length (by omega);rw [dp] at g7;simp only [acts183b,cf,fm] at g6 g7 hy;refine ⟨O5,min m'' (min m3 m'),⟨n3+1,by omega,p5.le (by omega)⟩,by omega,by omega,fun w=>?_⟩;have hmm:∀ w,min w (min O.length (min m'' (min m3 m')))=min w (min m'' (min m3 m')):=fun w=>by omega
   rw [au t183]; simp (disch:=omega) [code183,code183B0,hat,f6,c2,hx1,e2,e3,hat3,g6,g7,hy,e5,q3,q6,hmm,cr]
  ·have hd:∀ z:List AVal,True:=fun _=>trivial
   by_cases c3:r=3
   ·subst c3;obtain ⟨O5,m5,p5,l5,u5,e5⟩:=s150 f2 hb (by omega) (op:=22) (nn:=3);obtain ⟨m'',q4,q5,q6⟩:=jg f5 l5;refine ⟨O5,m'',⟨n+1,by omega,p5.le (by omega)⟩,by omega,by omega,fun w=>?_⟩;have hmm:∀ w,min w (min O.length m'')=min w m'':=fun w=>by omega
    by_cases c4:0 < x
    ·rw [au t183]; simp (disch:=omega) [code183,code183B0,hat,f6,c4,e5,q6,hmm,cr]
    ·rw [au t183]; simp (disch:=omega) [code183,code183B0,hat,f6,c4,e5,q6,hmm,cr]
   ·by_cases c4:r=4
    ·subst c4;exact k4_183 hb h f2 f5 f6 hat (by omega) (by omega)
    ·have hc:¬ (r:Int) < 2∨¬ 0 < x:=by omega
     obtain ⟨O2,m2,⟨n2,k2,p2⟩,l2,u2,e2⟩:=hi O1 n k f2 (by omega);obtain ⟨O5,m5,p5,l5,u5,e5⟩:=s150 p2 hb (by omega) (op:=133) (nn:=0);obtain ⟨m'',q4,q5,q6⟩:=jg f5 l2;have hmm:∀ w,min w (min O.length (min m'' m5))=min w (min m'' m5):=fun w=>by omega
     have n3:¬ (r:Int)=3:=by omega
     have n4:¬ (r:Int)=4:=by omega
     refine ⟨O5,min m'' m5,⟨n2+1,by omega,p5.le (by omega)⟩,by omega,by omega,fun w=>?_⟩;by_cases c5:0 < x
     ·have n1:¬ (r:Int) < 2:=by omega
      have n2:¬ (r:Int)=2:=by omega
      rw [au t183]; simp (disch:=omega) [code183,code183B0,hat,f6,c5,n1,n2,n3,n4,hx1,e2,e5,q6,hmm,cr]
     ·rw [au t183]; simp (disch:=omega) [code183,code183B0,hat,f6,c5,n3,n4,hx1,e2,e5,q6,hmm,cr]
end
theorem mf (hb:b≤tN):∀ (d:Nat) (x:Int),-9≤x→x≤9→x≤d→Expr tN tb tv B b dep 151 x (KK d)∧(-8≤x→Expr tN tb tv B b dep 183 x (KK d))
 | 0,x,h1,h2,h3=>⟨s151_of (d:=0) hb h1 h2 (by decide) (fun h=>by omega) (fun h=>by omega) (fun h=>by omega),fun h4 =>
   s183_of (i:=1) (l:=0) hb h4 h2 (by decide) (fun h=>by omega) (s151_of (d:=0) hb (by omega) (by omega) (by decide) (fun h=>by omega) (fun h=>by omega) (fun h=>by omega)) (fun h=>by omega)⟩
 | d+1,x,h1,h2,h3=>by have hp:=KK_pos d;refine ⟨s151_of (d:=d) hb h1 h2 (by simp only [KK]; omega) (fun h=>by simp only [KK]; omega) (fun h=>(mf hb d (x - 1) (by omega) (by omega) (by omega)).1) (fun h=>(mf hb d (x - 1) (by omega) (by omega) (by omega)).2 (by omega)),fun h4=>?_⟩;exact s183_of (i:=KK d) (l:=KK d) hb h4 h2 (by simp only [KK]; omega) (fun h=>⟨by simp only [KK]; omega,by simp only [KK]; omega⟩) (mf hb d (x - 1) (by omega) (by omega) (by omega)).1 (fun h=>(mf hb d (x - 1) (by omega) (by omega) (by omega)).2 (by omega))
end Go.Abs.Zm

namespace Go.Abs.Zm
open Go.Abs.Zd Go.Abs.Zh
variable {os O B:List AObj} {b w:Nat} {tN:Nat} {tb:List UInt8} {tv:AVal} {dep:Int} {n k:Nat}
def Act (tN:Nat) (tb:List UInt8) (tv:AVal) (B:List AObj) (b:Nat) (dep:Int) (g:Nat) (args:List AVal) (j:Nat):Prop :=
 ∀ (O:List AObj) (n k:Nat),Ws tN tb tv B O n k dep→k+j≤100000→Did tN tb tv B b g args (.tuple []) O fun O'=>∃ n',n≤n'∧Ws tN tb tv B O' n' (k+j) dep
theorem Ws.setN (h:Ws tN tb tv B O n k dep) {i n':Nat} (hi:i < n) {a0 a2 a3 a4 a5:AVal} {pc:Option (Nat × Nat)} {cc:Option Nat} (hat:O[B.length]? = some (.cells 6 [a0,.slice pc n' cc,a2,a3,a4,a5])) :
  ∃ q cs,pc=some (q,0)∧n'=n∧B.length < q∧q < O.length∧O[q]? = some (.cells 7 cs)∧cs.length=n*7∧∀ z:Int,Ws tN tb tv B (O.set q (.cells 7 (cs.take (i*7+1) ++ .int .i64 z :: cs.drop (i*7+2)))) n k dep:=by
 obtain ⟨pc',pt,px,cc',ct,cx,C,S,M,bud,hW,rfl,h2,h3,h4⟩:=h.ex;have e:=hat.symm.trans hW.wr;simp only [wrO,bt,AObj.cells.injEq,kx,AVal.slice.injEq,true_and,and_true] at e;obtain ⟨_,⟨e1,e2,e3⟩,_⟩:=e;subst e1 e2 e3;cases pc with
 | none=>have:=(hW.c.none rfl).1; rw [this] at hi; simp at hi
 | some q =>
  obtain ⟨q,o⟩:=q;obtain ⟨h5,h6,h7,h8⟩:=hW.c.some q o rfl;subst h5;have hlen:(C.flatMap InsU.cells).length=C.length*7:=lx InsU.cells 7 (fun _=>rfl) C;refine ⟨q,_,rfl,rfl,h7,aj h8,h8,hlen,fun z=>?_⟩;obtain ⟨C',hC,hW'⟩:=hW.setN rfl hi z;have hc:i*7+1 < (C.flatMap InsU.cells).length:=by rw [hlen]; omega
  have hs:(C.flatMap InsU.cells).set (i*7+1) (.int .i64 z)=(C.flatMap InsU.cells).take (i*7+1) ++ .int .i64 z :: (C.flatMap InsU.cells).drop (i*7+2):=by rw [List.set_eq_take_append_cons_drop,if_pos hc]
  rw [hs] at hW';exact ⟨_,_,_,_,_,_,_,_,_,_,hW',hC,h2,h3,h4⟩
theorem s210 (h:Ws tN tb tv B O n k dep) (hb:b≤tN) (hk:k≤100000) {op:Int} :
  Did tN tb tv B b 210 [.ptr (some (B.length,0)),.int .u8 op] (.int .i64 n) O fun O'=>Ws tN tb tv B O' (n+1) (k+1) dep:=by
 obtain ⟨hlt,hBO⟩:=h.len;obtain ⟨O1,m1,p1,l1,u1,e1⟩:=s150 h hb hk (op:=op) (nn:=0);obtain ⟨_,_,_,_,_,_,_,_,_,hat1,_⟩:=p1.at';obtain ⟨_,_,_,_,_,_,_,_,_,_,_,hn1,_⟩:=p1.ex;refine ⟨O1,m1,p1,l1,u1,fun w=>?_⟩;simp (disch:=omega) [-getElem?_pos,-getElem?_neg,-List.all_eq_true,gz,gs,nltT,nltF,iltT,iltF,ileT,nleT,de,-sget,jl,jm,jn,au t210,code210,e1,hat1]
theorem natInt1 (r:Nat):((r:Int)=1)=(r=1):=by simp; omega
theorem natInt2 (r:Nat):((r:Int)=2)=(r=2):=by simp; omega
section
attribute [-simp] getElem?_pos getElem?_neg List.all_eq_true sget
attribute [local simp] gz gs nltT nltF iltT iltF ileT nleT de jl jm jn
theorem sw184 (hb:b≤tN) (h:Ws tN tb tv B O n k dep) (hk:k+2≤100000) {r:Nat} :
  ∃ O' m n',n≤n'∧Ws tN tb tv B O' n' (k+2) dep∧tN≤m∧m≤B.length∧∀ (w:Nat) (c:AExit→St→Option (AVal × Heap)),
   xK T code184B0 ⟨[(0,.val (.ptr (some (B.length,0)))),(6,.val (.int .i64 r))],⟨O,b,w⟩⟩ (k:=⟨c⟩)=c .normal ⟨[],⟨O',b,min w m⟩⟩:=by
 obtain ⟨hlt,hBO⟩:=h.len;have c4:r=0∨r=1∨r=2∨(¬ r=0∧¬ r=1∧¬ r=2):=by omega
 rcases c4 with rfl | rfl | rfl | ⟨c1,c2,c3⟩
 ·obtain ⟨O2,m2,p2,l2,u2,e2⟩:=s150 h hb (by omega) (op:=1) (nn:=0);refine ⟨O2,m2,n+1,by omega,p2.le (by omega),l2,u2,fun w c=>?_⟩;simp (disch:=omega) [code184B0,e2]
 ·obtain ⟨pc,pt,px,cc,ct,cx,nt,nx,bud,cs,h1,h6,h9,h7,hkw,_,_,h8⟩:=h.put (b:=b) (x:=⟨187,0,0,[66],[],[],[]⟩) hb (by omega) ⟨by decide,by decide,by decide,by decide⟩;simp only [InsU.cells] at h7;refine ⟨_,B.length,n+1,by omega,h8.le (by omega),by omega,by omega,fun w c=>?_⟩;simp (disch:=omega) [code184B0,-eb,h1,h7,h6,h9,hkw,InsU.cells]
 ·obtain ⟨O1,m1,p1,l1,u1,e1⟩:=s150 h hb (by omega) (op:=25) (nn:=5);obtain ⟨pc,pt,px,cc,ct,cx,nt,nx,bud,cs,h1,h6,h9,h7,hkw,_,_,h8⟩:=p1.put (b:=b) (x:=⟨192,0,0,[66],[],[],[]⟩) hb (by omega) ⟨by decide,by decide,by decide,by decide⟩;simp only [InsU.cells] at h7;refine ⟨_,min m1 B.length,n+1+1,by omega,h8.le (by omega),by omega,by omega,fun w c=>?_⟩;simp (disch:=omega) [code184B0,e1,-eb,h1,h7,h6,h9,hkw,InsU.cells,cr]
 ·obtain ⟨pc,pt,px,cc,ct,cx,nt,nx,bud,cs,h1,h6,h9,h7,hkw,_,_,h8⟩:=h.put (b:=b) (x:=⟨187,0,0,[65],[],[],[]⟩) hb (by omega) ⟨by decide,by decide,by decide,by decide⟩;simp only [InsU.cells] at h7;refine ⟨_,B.length,n+1,by omega,h8.le (by omega),by omega,by omega,fun w c=>?_⟩;simp (disch:=omega) [code184B0,c1,natInt1,c2,natInt2,c3,-eb,h1,h7,h6,h9,hkw,InsU.cells]
theorem s184 (hb:b≤tN):Act tN tb tv B b dep 184 [.ptr (some (B.length,0))] 2:=fun O n k h hk=>by
 obtain ⟨hlt,hBO⟩:=h.len;obtain ⟨_,_,_,_,_,_,_,_,_,hat,_⟩:=h.at';obtain ⟨r,O1,nx1,f1,f2,f3,f4,f5,f6⟩:=h.next hb (x:=5) (by decide) (by decide)
 obtain ⟨O2,m2,n2,q1,p2,l2,u2,e2⟩:=sw184 hb f2 hk (r:=r);obtain ⟨m',q4,q5,q6⟩:=jg f5 l2;have hmm:∀ w,min w (min O.length m')=min w m':=fun w=>by omega
 have hm2:min O.length m'=m':=by omega
 refine ⟨O2,m',⟨n2,q1,p2⟩,q4,by omega,fun w=>?_⟩;simp (disch:=omega) [au t184,code184,hat,f6,e2,q6,hmm,hm2]
theorem sw188 (hb:b≤tN) (h:Ws tN tb tv B O n k dep) (hk:k+(KK 1+2)≤100000) {r:Nat} :
  ∃ O' m n',n≤n'∧Ws tN tb tv B O' n' (k+(KK 1+2)) dep∧tN≤m∧m≤B.length∧∀ (w:Nat) (c:AExit→St→Option (AVal × Heap)),
   xK T code188B0 ⟨[(0,.val (.ptr (some (B.length,0)))),(6,.val (.int .i64 r))],⟨O,b,w⟩⟩ (k:=⟨c⟩)=c .normal ⟨[],⟨O',b,min w m⟩⟩:=by
 have hKK:KK 1=5:=rfl;have h151:Expr tN tb tv B b dep 151 1 (KK 1):=(mf hb 1 1 (by decide) (by decide) (by decide)).1;have c4:r=0∨r=1∨r=2∨(¬ r=0∧¬ r=1∧¬ r=2):=by omega
 rcases c4 with rfl | rfl | rfl | ⟨c1,c2,c3⟩
 ·obtain ⟨O1,m1,p1,l1,u1,e1⟩:=s150 h hb (by omega) (op:=25) (nn:=7);obtain ⟨O2,m2,p2,l2,u2,e2⟩:=s154 p1 hb (by omega) (op:=184) (c:=[115,121,115]) (m:=[97,100,100]) (d:=[40,91,66,41,73]) (by decide) (by decide) (by decide);obtain ⟨O3,m3,p3,l3,u3,e3⟩:=s150 p2 hb (by omega) (op:=54) (nn:=1);refine ⟨O3,min m1 (min m2 m3),n+1+1+1,by omega,p3.le (by omega),by omega,by omega,fun w c=>?_⟩;simp (disch:=omega) [code188B0,e1,e2,e3,cr]
 ·obtain ⟨O1,m1,⟨n1,k1,p1⟩,l1,u1,e1⟩:=h151 O n k h (by omega);obtain ⟨O2,m2,p2,l2,u2,e2⟩:=s154 p1 hb (by omega) (op:=184) (c:=[115,121,115]) (m:=[103,101,116]) (d:=[40,73,41,91,66]) (by decide) (by decide) (by decide);obtain ⟨O3,m3,p3,l3,u3,e3⟩:=s150 p2 hb (by omega) (op:=58) (nn:=7);refine ⟨O3,min m1 (min m2 m3),n1+1+1,by omega,p3.le (by omega),by omega,by omega,fun w c=>?_⟩;simp (disch:=omega) [code188B0,e1,e2,e3,cr]
 ·obtain ⟨O1,m1,⟨n1,k1,p1⟩,l1,u1,e1⟩:=h151 O n k h (by omega);obtain ⟨O2,m2,p2,l2,u2,e2⟩:=s150 p1 hb (by omega) (op:=25) (nn:=7);obtain ⟨O3,m3,p3,l3,u3,e3⟩:=s154 p2 hb (by omega) (op:=184) (c:=[115,121,115]) (m:=[115,101,116]) (d:=[40,73,91,66,41,86]) (by decide) (by decide) (by decide);refine ⟨O3,min m1 (min m2 m3),n1+1+1,by omega,p3.le (by omega),by omega,by omega,fun w c=>?_⟩;simp (disch:=omega) [code188B0,e1,e2,e3,cr]
 ·obtain ⟨O2,m2,p2,l2,u2,e2⟩:=s154 h hb (by omega) (op:=184) (c:=[115,121,115]) (m:=[99,111,117,110,116]) (d:=[40,41,73]) (by decide) (by decide) (by decide);obtain ⟨O3,m3,p3,l3,u3,e3⟩:=s150 p2 hb (by omega) (op:=54) (nn:=1);refine ⟨O3,min m2 m3,n+1+1,by omega,p3.le (by omega),by omega,by omega,fun w c=>?_⟩;simp (disch:=omega) [code188B0,c1,natInt1,c2,natInt2,c3,e2,e3,cr]
theorem s188 (hb:b≤tN):Act tN tb tv B b dep 188 [.ptr (some (B.length,0))] (KK 1+2):=fun O n k h hk=>by
 obtain ⟨hlt,hBO⟩:=h.len;obtain ⟨_,_,_,_,_,_,_,_,_,hat,_⟩:=h.at';obtain ⟨r,O1,nx1,f1,f2,f3,f4,f5,f6⟩:=h.next hb (x:=4) (by decide) (by decide)
 obtain ⟨O2,m2,n2,q1,p2,l2,u2,e2⟩:=sw188 hb f2 hk (r:=r);obtain ⟨m',q4,q5,q6⟩:=jg f5 l2;have hm2:min O.length m'=m':=by omega
 refine ⟨O2,m',⟨n2,q1,p2⟩,q4,by omega,fun w=>?_⟩;simp (disch:=omega) [au t188,code188,hat,f6,e2,q6,hm2]
end
end Go.Abs.Zm

namespace Go.Abs.Zm
open Go.Abs.Zd Go.Abs.Zh
variable {os O B:List AObj} {b w:Nat} {tN:Nat} {tb:List UInt8} {tv:AVal} {dep:Int} {n k:Nat}
section
attribute [-simp] getElem?_pos getElem?_neg List.all_eq_true sget
attribute [local simp] gz gs nltT nltF iltT iltF ileT nleT de jl jm jn
theorem l209 (_:b≤tN) {j:Nat} (hs:Act tN tb tv B b dep 152 [.ptr (some (B.length,0))] j):∀ (i:Nat) (O:List AObj) (n k:Nat),i≤3→Ws tN tb tv B O n k dep→k+i*j≤100000 →
  ∃ O' m n',n≤n'∧Ws tN tb tv B O' n' (k+i*j) dep∧tN≤m∧m≤B.length∧∀ (w:Nat) (c:AExit→St→Option (AVal × Heap)),w≤B.length →
   xK T (.loop code209L0) ⟨[(0,.val (.ptr (some (B.length,0)))),(2,.val (.int .i64 i))],⟨O,b,w⟩⟩ (k:=⟨c⟩)=c (.exit 0) ⟨[(0,.val (.ptr (some (B.length,0))))],⟨O',b,min w m⟩⟩
 | 0,O,n,k,_,h,hk=>by
  obtain ⟨hlt,hBO⟩:=h.len;refine ⟨O,B.length,n,ai _,by simpa using h,by omega,ai _,fun w c hw=>?_⟩;rw [cg];have hmm:min w B.length=w:=by omega
  simp (disch:=omega) [code209L0,hmm]
 | i+1,O,n,k,hi,h,hk=>by
  have hm:(i+1)*j=j+i*j:=by rw [gg,Nat.one_mul,z6]
  obtain ⟨O1,m1,⟨n1,q1,p1⟩,l1,u1,e1⟩:=hs O n k h (by omega);obtain ⟨O2,m2,n2,q2,p2,l2,u2,e2⟩:=l209 ‹_› hs i O1 n1 (k+j) (by omega) p1 (by omega);have ek:k+j+i*j=k+(i+1)*j:=by omega
  rw [ek] at p2;refine ⟨O2,min m1 m2,n2,by omega,p2,by omega,by omega,fun w c hw=>?_⟩;have e2:=e2 (min w m1) c (by omega);rw [cg];have c1:(0:Int) < (i:Int)+1:=by omega
  generalize ACode.loop code209L0=L at e2 ⊢;simp (disch:=omega) [code209L0,e1,e2,c1,cr]
theorem s209 (hb:b≤tN) (hd:0≤dep) (hd2:dep≤1000) {j:Nat} (hs:Act tN tb tv B b (dep+1) 152 [.ptr (some (B.length,0))] j):Act tN tb tv B b dep 209 [.ptr (some (B.length,0))] (3*j):=fun O n k h hk=>by
 obtain ⟨hlt,hBO⟩:=h.len;obtain ⟨pc,pt,px,cc,ct,cx,nt,nx',bud,hat,hset⟩:=h.at';have h1:=hset (dep+1) bud;have hset2:∀ y,(O.set B.length y)[B.length]? = some y:=fun y=>by rw [db,if_pos rfl,if_pos hBO]
 obtain ⟨r,O2,nx,g1,g2,g3,g4,g5,g6⟩:=h1.next hb (x:=3) (by decide) (by decide)
 have hmul:(r+1)*j≤3*j:=im _ (by omega);obtain ⟨O3,m3,n3,q3,p3,l3,u3,e3⟩:=l209 hb hs (r+1) O2 n k (by omega) g2 (by omega);obtain ⟨pc3,pt3,px3,cc3,ct3,cx3,nt3,nx3,bud3,hat3,hset3⟩:=p3.at';have h4:=hset3 dep bud3;obtain ⟨m',q4,q5,q6⟩:=jg g5 l3;have hnx:=nx_le g5 B.length;have e3:=fun c=>e3 (nx B.length) c hnx
 simp only [Int.natCast_add,ce] at e3;have er:(1:Int)+r=r+1:=by omega
 have w1:IntKind.i64.wrap (dep+1)=dep+1:=de (by omega);have w2:IntKind.i64.wrap (dep+1 - 1)=dep:=by rw [Int.add_sub_cancel]; exact de (by omega)
 have hmm:min m' B.length=m':=by omega
 have hmm2:min B.length m'=m':=by omega
 refine ⟨_,m',⟨n3,q3,h4.le (by omega)⟩,q4,by omega,fun w=>?_⟩;simp (disch:=omega) [au t209,code209,hat,hset2,w1,g6,er,e3,hat3,w2,q6,hmm,hmm2]
end
end Go.Abs.Zm

namespace Go.Abs.Zm
open Go.Abs.Zd Go.Abs.Zh
variable {os O B:List AObj} {b w:Nat} {tN:Nat} {tb:List UInt8} {tv:AVal} {dep:Int} {n k:Nat}
theorem tail7 {i n:Nat} (hi:i < n) {cs:List AVal} (hl:cs.length=n*7):i*7+7≤cs.length∧i*7+1 < cs.length∧i*7+1+1≤cs.length:=by have:(i+1)*7≤n*7:=im _ hi;omega
theorem Ws.aim (h:Ws tN tb tv B O n k dep) (hb:b≤tN) (hk:k+1≤100000) {i:Nat} (hi:i < n) :
  ∃ (O1:List AObj) (nx:Nat→Nat) (q:Nat) (cs:List AVal) (a0 a2 a3 a3' a4 a5:AVal) (cc:Option Nat),O[B.length]? = some (.cells 6 [a0,.slice (some (q,0)) n cc,a2,a3,a4,a5])∧O1[B.length]? = some (.cells 6 [a0,.slice (some (q,0)) n cc,a2,a3',a4,a5])∧O.length≤O1.length ∧
   ((∀ w,nx w=w)∨(∀ w,nx w=min w B.length))∧(∀ w,xCall T 100208 [.ptr (some (B.length,0)),.slice none 0 (some 0)] ⟨O,b,w⟩=some (.int .i64 n,⟨O1,b,nx w⟩)) ∧
   B.length < q∧q < O.length∧O1[q]? = some (.cells 7 cs)∧cs.length=n*7∧Ws tN tb tv B (O1.set q (.cells 7 (cs.take (i*7+1) ++ .int .i64 n :: cs.drop (i*7+2)))) n (k+1) dep:=by
 obtain ⟨pc,pt,px,cc,ct,cx,nt,nx',bud,hat,_⟩:=h.at';obtain ⟨O1,nx,a3',p1,hat1,hlen,hnx,e1⟩:=s208 h hb hk .nil hat;obtain ⟨q,cs,h1,_,h3,h4,h5,h6,h7⟩:=p1.setN hi hat1;subst h1;exact ⟨O1,nx,q,cs,_,_,_,a3',_,_,cc,hat,hat1,hlen,hnx,e1,h3,((h.lows hat).1 _ _ rfl).1,h5,h6,h7 n⟩
section
attribute [-simp] getElem?_pos getElem?_neg List.all_eq_true sget
attribute [local simp] gz gs nltT nltF iltT iltF ileT nleT de jl jm jn
theorem r185a (h:Ws tN tb tv B O n k dep) (hb:b≤tN) (hk:k+1≤100000) {i:Nat} (hi:i < n) {z:AVal} :
  ∃ O',Ws tN tb tv B O' n (k+1) dep∧∀ (w:Nat) (c:AExit→St→Option (AVal × Heap)),w≤B.length →
   xK T code185R0 ⟨[(0,.val (.ptr (some (B.length,0)))),(2,.val (.int .i64 i)),(3,.val z)],⟨O,b,w⟩⟩ (k:=⟨c⟩)=c .normal ⟨[(0,.val (.ptr (some (B.length,0)))),(3,.val z)],⟨O',b,w⟩⟩:=by
 obtain ⟨hlt,hBO⟩:=h.len;obtain ⟨O1,nx,q,cs,a0,a2,a3,a3',a4,a5,cc,hat,hat1,hlen,hnx,e1,h3,h4,h5,h6,h7⟩:=h.aim hb hk hi;obtain ⟨t1,t2,t3⟩:=tail7 hi h6;refine ⟨_,h7,fun w c hw=>?_⟩
 have hn1:n≤9223372036854775807:=by obtain ⟨_,_,_,_,_,_,_,_,_,_,_,_,hn,_⟩:=h.ex;omega
 have hwl:nx O.length=O.length∨nx O.length=B.length:=by rcases hnx with g | g <;> rw [g] <;> omega
 have hm1:min w B.length=w:=by omega
 have hm2:min w q=w:=by omega
 have hm3:min w O.length=w:=by omega
 rcases hwl with hwl | hwl <;>
  simp (maxSteps:=3000000) (disch:=omega) [aw,benign,again,AVal.eqb,code185R0,hat,e1,hat1,h5,hwl,hm1,hm2,hm3]
theorem r185b (h:Ws tN tb tv B O n k dep) (hb:b≤tN) (hk:k+1≤100000) {i:Nat} (hi:i < n) :
  ∃ O',Ws tN tb tv B O' n (k+1) dep∧∀ (w:Nat) (c:AExit→St→Option (AVal × Heap)),w≤B.length →
   xK T code185R1 ⟨[(0,.val (.ptr (some (B.length,0)))),(3,.val (.int .i64 i))],⟨O,b,w⟩⟩ (k:=⟨c⟩)=c .normal ⟨[],⟨O',b,w⟩⟩:=by
 obtain ⟨hlt,hBO⟩:=h.len;obtain ⟨O1,nx,q,cs,a0,a2,a3,a3',a4,a5,cc,hat,hat1,hlen,hnx,e1,h3,h4,h5,h6,h7⟩:=h.aim hb hk hi;obtain ⟨t1,t2,t3⟩:=tail7 hi h6;refine ⟨_,h7,fun w c hw=>?_⟩
 have hn1:n≤9223372036854775807:=by obtain ⟨_,_,_,_,_,_,_,_,_,_,_,_,hn,_⟩:=h.ex;omega
 have hwl:nx O.length=O.length∨nx O.length=B.length:=by rcases hnx with g | g <;> rw [g] <;> omega
 have hm1:min w B.length=w:=by omega
 have hm2:min w q=w:=by omega
 have hm3:min w O.length=w:=by omega
 rcases hwl with hwl | hwl <;>
  simp (maxSteps:=3000000) (disch:=omega) [aw,benign,again,AVal.eqb,code185R1,hat,e1,hat1,h5,hwl,hm1,hm2,hm3]
theorem r186a (h:Ws tN tb tv B O n k dep) (hb:b≤tN) (hk:k+1≤100000) {i:Nat} (hi:i < n) :
  ∃ O',Ws tN tb tv B O' n (k+1) dep∧∀ (w:Nat) (c:AExit→St→Option (AVal × Heap)),w≤B.length →
   xK T code186R0 ⟨[(0,.val (.ptr (some (B.length,0)))),(3,.val (.int .i64 i))],⟨O,b,w⟩⟩ (k:=⟨c⟩)=c .normal ⟨[],⟨O',b,w⟩⟩:=by
 obtain ⟨hlt,hBO⟩:=h.len;obtain ⟨O1,nx,q,cs,a0,a2,a3,a3',a4,a5,cc,hat,hat1,hlen,hnx,e1,h3,h4,h5,h6,h7⟩:=h.aim hb hk hi;obtain ⟨t1,t2,t3⟩:=tail7 hi h6;refine ⟨_,h7,fun w c hw=>?_⟩
 have hn1:n≤9223372036854775807:=by obtain ⟨_,_,_,_,_,_,_,_,_,_,_,_,hn,_⟩:=h.ex;omega
 have hwl:nx O.length=O.length∨nx O.length=B.length:=by rcases hnx with g | g <;> rw [g] <;> omega
 have hm1:min w B.length=w:=by omega
 have hm2:min w q=w:=by omega
 have hm3:min w O.length=w:=by omega
 rcases hwl with hwl | hwl <;>
  simp (maxSteps:=3000000) (disch:=omega) [aw,benign,again,AVal.eqb,code186R0,hat,e1,hat1,h5,hwl,hm1,hm2,hm3]
end
end Go.Abs.Zm

namespace Go.Abs.Zm
open Go.Abs.Zd Go.Abs.Zh
variable {os O B:List AObj} {b w:Nat} {tN:Nat} {tb:List UInt8} {tv:AVal} {dep:Int} {n k:Nat}
def acts185:List Int:=[153,154,155,156,157,158]
section
attribute [-simp] getElem?_pos getElem?_neg List.all_eq_true sget
attribute [local simp] gz gs nltT nltF iltT iltF ileT nleT de jl jm jn
theorem s185 (hb:b≤tN) {j:Nat} (hs:Act tN tb tv B b dep 209 [.ptr (some (B.length,0))] j):Act tN tb tv B b dep 185 [.ptr (some (B.length,0))] (9+2*j):=fun O n k h hk=>by
 have hKK:KK 1=5:=rfl;obtain ⟨hlt,hBO⟩:=h.len;have h151:Expr tN tb tv B b dep 151 1 (KK 1):=(mf hb 1 1 (by decide) (by decide) (by decide)).1;obtain ⟨O1,m1,⟨n1,k1,p1⟩,l1,u1,e1⟩:=h151 O n k h (by omega);obtain ⟨r2,O2,nx,g1,g2,g3,g4,g5,g6⟩:=(p1.app [.cells 1 (acts185.map (AVal.int .u8))]).next hb (x:=6) (by decide) (by decide)
 obtain ⟨y,hy⟩:=pj acts185 (r:=r2) (by simp only [acts185,az,bf]; omega);obtain ⟨O3,m3,p3,l3,u3,e3⟩:=s210 g2 hb (by omega) (op:=y);obtain ⟨m',q1,q2,q3⟩:=jg g5 l3;obtain ⟨_,_,_,_,_,_,_,_,_,hat1,_⟩:=p1.at';have hlen1:=p1.len;have hat1:=fun X=>(ag (l₂:=X) hlen1.2).trans hat1
 have g7:=g4 O1.length (by omega);rw [dp] at g7;simp only [acts185,cf,fm] at g6 g7 hy;obtain ⟨O4,m4,⟨n4,k4,p4⟩,l4,u4,e4⟩:=hs O3 _ _ p3 (by omega);obtain ⟨O5,m5,p5,l5,u5,e5⟩:=s210 p4 hb (by omega) (op:=167);obtain ⟨O6,p6,e6⟩:=r185a p5 hb (by omega) (i:=n1) (by omega) (z:=.int .i64 n4);obtain ⟨O7,m7,⟨n7,k7,p7⟩,l7,u7,e7⟩:=hs O6 _ _ p6 (by omega);obtain ⟨O8,p8,e8⟩:=r185b p7 hb (by omega) (i:=n4) (by omega);refine ⟨O8,min m1 (min m' (min m4 (min m5 m7))),⟨n7,by omega,p8.le (by omega)⟩,by omega,by omega,fun w=>?_⟩;simp (maxSteps:=3000000) (disch:=omega) [au t185,code185,e1,hat1,g6,g7,hy,e3,q3,e4,e5,e6,e7,e8,cr]
theorem s186 (hb:b≤tN) {j:Nat} (hs:Act tN tb tv B b dep 209 [.ptr (some (B.length,0))] j):Act tN tb tv B b dep 186 [.ptr (some (B.length,0))] (8+j):=fun O n k h hk=>by
 obtain ⟨hlt,hBO⟩:=h.len;obtain ⟨_,_,_,_,_,_,_,_,_,hat,_⟩:=h.at';obtain ⟨r2,O1,nx,g1,g2,g3,g4,g5,g6⟩:=h.next hb (x:=5) (by decide) (by decide)
 obtain ⟨O2,m2,p2,l2,u2,e2⟩:=s153 g2 hb (by omega) (x:=r2) (by omega) (by omega);obtain ⟨m',q1,q2,q3⟩:=jg g5 l2;obtain ⟨O3,m3,p3,l3,u3,e3⟩:=s150 p2 hb (by omega) (op:=54) (nn:=2);obtain ⟨_,_,_,_,_,_,_,_,_,hat3,_⟩:=p3.at';obtain ⟨O4,nx4,a4,p4,_,_,hnx4,e4⟩:=s208 p3 hb (by omega) .nil hat3;obtain ⟨O5,m5,p5,l5,u5,e5⟩:=s150 p4 hb (by omega) (op:=21) (nn:=2);simp only [bf] at e4;have q5:∀ w,min (nx4 w) m5=min w m5:=fun w=>by rcases hnx4 with g | g <;> rw [g] <;> omega
 obtain ⟨O6,m6,p6,l6,u6,e6⟩:=s210 p5 hb (by omega) (op:=158);obtain ⟨O7,m7,⟨n7,k7,p7⟩,l7,u7,e7⟩:=hs O6 _ _ p6 (by omega);obtain ⟨pc,pt,px,cc,ct,cx,nt,nx',bud,cs,h1,h6,h9,h7,hkw,_,_,p8⟩:=p7.put (b:=b) (x:=⟨132,2,-1,[],[],[],[]⟩) hb (by omega) ⟨by decide,by decide,by decide,by decide⟩;simp only [InsU.cells] at h7;simp only [InsU.cells] at p8;obtain ⟨O9,m9,p9,l9,u9,e9⟩:=s150 p8 hb (by omega) (op:=167) (nn:=n+1+1);obtain ⟨O10,p10,e10⟩:=r186a p9 hb (by omega) (i:=n+1+1+1) (by omega);simp only [Int.natCast_add,ce] at e10;refine ⟨O10,min m' (min m3 (min m5 (min m6 (min m7 (min B.length m9))))),⟨_,by omega,p10.le (by omega)⟩,by omega,by omega,fun w=>?_⟩;simp (maxSteps:=3000000) (disch:=omega) [au t186,code186,hat,g6,e2,q3,e3,e4,e5,q5,e6,e7,-eb,h1,h7,h6,h9,hkw,e9,e10,cr]
end
end Go.Abs.Zm

namespace Go.Abs.Zm
open Go.Abs.Zd Go.Abs.Zh
variable {os O B:List AObj} {b w:Nat} {tN:Nat} {tb:List UInt8} {tv:AVal} {dep:Int} {n k:Nat}
theorem Ws.last (h:Ws tN tb tv B O n k dep) (hn:0 < n) {a0 a2 a3 a4 a5:AVal} {pc:Option (Nat × Nat)} {n':Nat} {cc:Option Nat} (hat:O[B.length]? = some (.cells 6 [a0,.slice pc n' cc,a2,a3,a4,a5])) :
  ∃ q cs v,pc=some (q,0)∧n'=n∧O[q]? = some (.cells 7 cs)∧cs.length=n*7∧cs[(n - 1)*7]? = some (.int .u8 v):=by
 obtain ⟨q,cs,h1,h2,h3,h4,h5,h6,h7⟩:=h.setN (i:=0) hn hat;obtain ⟨pc',pt,px,cc',ct,cx,C,S,M,bud,hW,rfl,_⟩:=h.ex;have e:=hat.symm.trans hW.wr;simp only [wrO,bt,AObj.cells.injEq,kx,AVal.slice.injEq,true_and,and_true] at e;obtain ⟨_,⟨e1,_,_⟩,_⟩:=e;have hR:Row O 7 InsU.cells C pc':=Own.row (f:=InsU.cells) (fun _=>rfl) hW.c;obtain ⟨x,hx⟩:∃ x,C[C.length - 1]? = some x:=⟨_,ah (by omega)⟩;obtain ⟨p,o,cs',ha,hpp,hpl,hcs,ht⟩:=j7 hR hx;rw [← e1,h1] at ha;simp only [bt,eg] at ha;obtain ⟨rfl,rfl⟩:=ha;rw [h5] at hpp;simp only [bt,AObj.cells.injEq,true_and] at hpp;subst hpp;have:=take_get (k:=0) ht (by decide);rw [dk,iz] at this;exact ⟨q,cs,x.op,h1,h2,h5,h6,this⟩
theorem Ws.trap (h:Ws tN tb tv B O n k dep) (hb:b≤tN) (hk:k≤100000) {x:TrapU} (hx:x.cls ∈ classesT) :
  ∃ pc pt px cc ct cx nt nx bud cs,O[B.length]? = some (.cells 6 [.ptr (some (tN,0)),.slice pc n cc,.slice pt nt ct,.slice px nx cx,.int .i64 dep,.int .i64 bud]) ∧
   (∀ X,(gw pt O++X)[B.length]? = some (.cells 6 [.ptr (some (tN,0)),.slice pc n cc,.slice pt nt ct,.slice px nx cx,.int .i64 dep,.int .i64 bud])) ∧
   (∀ w,eb 4 40 ⟨O++[AObj.cells 4 x.cells],b,w⟩ (.slice pt nt ct) (.slice (some (O.length,0)) 1 (some 1))=some (.slice (some (O.length+1,0)) (nt+1) none,⟨gw pt O++[AObj.cells 4 x.cells,AObj.cells 4 cs],b,lb pt w⟩)) ∧
   (∀ w,min (lb pt w) B.length=min w B.length) ∧
   Ws tN tb tv B ((gw pt O++[AObj.cells 4 x.cells,AObj.cells 4 cs]).set B.length (.cells 6 [.ptr (some (tN,0)),.slice pc n cc,.slice (some (O.length+1,0)) (nt+1) none,.slice px nx cx,.int .i64 dep,.int .i64 bud])) n (k+1) dep:=by
 obtain ⟨pc,pt,px,cc,ct,cx,C,S,M,bud,hW,rfl,h2,h3,h4⟩:=h.ex;have h1:=app_own (b:=b) (by':=40) (x:=x) (f:=TrapU.cells) (fun _=>rfl) hW.s (by have:=hW.lt; omega) (by omega) (by omega) [];have h5:=hW.addS hx [];simp only [bj,bf,iz] at h1 h5;refine ⟨pc,pt,px,cc,ct,cx,S.length,M.length,bud,_,hW.wr,fun X=>?_,h1,fun w=>?_,⟨_,_,_,_,_,_,_,_,_,_,h5,rfl,by omega,by simp; omega,by omega⟩⟩
 ·rw [ag (by simpa using hW.len),lz fun o e=>by have:=(hW.s.some _ _ e).2.2.1; omega]; exact hW.wr
 ·cases pt with
  | none=>rfl
  | some q=>obtain ⟨i,o⟩:=q; have:=(hW.s.some _ _ rfl).2.2.1; simp only [lb]; omega
def clsR:List AVal:=[.str [],.str [84,104,114,111,119,97,98,108,101],.str [77,97,116,104,70,97,117,108,116],.str [79,111,112,115],.str [78,117,108,108,70,97,117,108,116]]
theorem cls_get {r:Nat} (hr:r < 5):∃ y,clsR[r]? = some (.str y)∧y ∈ classesT∧y.length≤20:=by
 have:r=0∨r=1∨r=2∨r=3∨r=4:=by omega
 rcases this with rfl | rfl | rfl | rfl | rfl <;> exact ⟨_,rfl,by decide,by decide⟩
section
attribute [-simp] getElem?_pos getElem?_neg List.all_eq_true sget
attribute [local simp] gz gs nltT nltF iltT iltF ileT nleT de jl jm jn
theorem t187_0 (h:Ws tN tb tv B O n k dep) (hb:b≤tN) (hk:k+1≤100000) {e from' to' at' aft:Int} (he:e = -1∨∃ i:Nat,e=i∧i < n) {y:Str} (hy:y ∈ classesT) :
  ∃ O',Ws tN tb tv B O' n (k+1) dep∧∀ (w:Nat) (c:AExit→St→Option (AVal × Heap)),w≤B.length →
   xK T code187T0 ⟨[(0,.val (.ptr (some (B.length,0)))),(2,.val (.int .i64 from')),(3,.val (.int .i64 e)),(4,.val (.int .i64 to')),(5,.val (.str y)),(7,.val (.int .i64 at')),(8,.val (.int .i64 aft))],⟨O,b,w⟩⟩ (k:=⟨c⟩)=c .normal ⟨[],⟨O',b,w⟩⟩:=by
 obtain ⟨hlt,hBO⟩:=h.len;rcases he with rfl | ⟨i,rfl,hi⟩
 ·obtain ⟨pc,pt,px,cc,ct,cx,nt,nx,bud,cs,h1,h9,h7,hkw,h8⟩:=h.trap (b:=b) (x:=⟨from',to',at',y⟩) hb (by omega) hy;simp only [TrapU.cells] at h7 h8 h9;refine ⟨_,h8,fun w c hw=>?_⟩;have hm1:min w B.length=w:=by omega
  simp (disch:=omega) [code187T0,-eb,h1,h7,h9,hkw,hm1,TrapU.cells]
 ·obtain ⟨pc0,_,_,cc0,_,_,_,_,_,hat0,_⟩:=h.at';obtain ⟨q,cs0,rfl,_,q3,q4,q5,q6,q7⟩:=h.setN hi hat0;have q7:=q7 aft;obtain ⟨t1,t2,t3⟩:=tail7 hi q6;obtain ⟨pc,pt,px,cc,ct,cx,nt,nx,bud,cs,h1,h9,h7,hkw,h8⟩:=q7.trap (b:=b) (x:=⟨from',to',at',y⟩) hb (by omega) hy;simp only [TrapU.cells] at h7 h8 h9;have hll:∀ Y,(O.set q Y).length=O.length:=fun Y=>jh
  rw [hll] at h7 h8;refine ⟨_,h8,fun w c hw=>?_⟩;have hm1:min w B.length=w:=by omega
  have hm2:min w q=w:=by omega
  have hn1:n≤9223372036854775807:=by obtain ⟨_,_,_,_,_,_,_,_,_,_,_,_,hn,_⟩:=h.ex;omega
  simp (disch:=omega) [code187T0,-eb,hat0,q5,h1,h7,h9,hkw,hm1,hm2,TrapU.cells]
theorem t187_1 (h:Ws tN tb tv B O n k dep) (hb:b≤tN) {j:Nat} (hs:Act tN tb tv B b dep 209 [.ptr (some (B.length,0))] j) (hk:k+(j+4)≤100000) {e from' to':Int} (he:e = -1∨∃ i:Nat,e=i∧i < n) :
  ∃ O' m n',n≤n'∧Ws tN tb tv B O' n' (k+(j+4)) dep∧tN≤m∧m≤B.length∧∀ (w:Nat) (c:AExit→St→Option (AVal × Heap)),w≤B.length →
   xK T code187T1 ⟨[(0,.val (.ptr (some (B.length,0)))),(2,.val (.int .i64 from')),(3,.val (.int .i64 e)),(4,.val (.int .i64 to'))],⟨O,b,w⟩⟩ (k:=⟨c⟩)=c .normal ⟨[],⟨O',b,min w m⟩⟩:=by
 obtain ⟨hlt,hBO⟩:=h.len;obtain ⟨_,_,_,_,_,_,_,_,_,hat,_⟩:=h.at';have hatX:=fun X=>(ag (l₂:=X) hBO).trans hat
 obtain ⟨r2,O2,nx,g1,g2,g3,g4,g5,g6⟩:=(h.app [.cells 1 clsR]).next hb (x:=5) (by decide) (by decide)
 obtain ⟨y,hy,hy2,hy3⟩:=cls_get (r:=r2) (by omega);have g7:=g4 O.length (by omega);rw [dp] at g7;have hO2:=g2.len.2;obtain ⟨s,hsl,hse⟩:∃ s:Str,s.length≤100∧s=76 :: ((if y=[] then throwT else y)++[59]):=⟨_,by split <;> simp [throwT] <;> omega,rfl⟩;have g8:=g2.app [.cells 1 [.str s]];obtain ⟨_,_,_,_,_,_,_,_,_,hat8,_⟩:=g8.at';obtain ⟨O3,nx3,a3,p3,hat3,hl3,hnx3,e3⟩:=s208 g8 hb (by omega) (.one O2.length s hO2 hsl (by rw [dp]; rfl)) hat8;obtain ⟨O4,m4,p4,l4,u4,e4⟩:=s150 p3 hb (by omega) (op:=87) (nn:=0);have q4:∀ w,min (nx3 w) m4=min w m4:=fun w=>by rcases hnx3 with g | g <;> rw [g] <;> omega
 obtain ⟨m',q1,q2,q3⟩:=jg g5 l4;obtain ⟨O5,m5,⟨n5,k5,p5⟩,l5,u5,e5⟩:=hs O4 _ _ p4 (by omega);obtain ⟨_,_,_,_,_,_,_,_,_,hat5,_⟩:=p5.at';obtain ⟨O6,nx6,a6,p6,hat6,hl6,hnx6,e6⟩:=s208 p5 hb (by omega) .nil hat5
 obtain ⟨O7,p7,e7⟩:=t187_0 p6 hb (by omega) (e:=e) (from':=from') (to':=to') (at':=n) (aft:=n5) (by
  rcases he with he | ⟨i,he,hi⟩
  ·exact .inl he
  ·exact .inr ⟨i,he,by omega⟩) hy2
 have q6:∀ w,w≤B.length→nx6 w=w:=fun w hw=>by rcases hnx6 with g | g <;> rw [g] <;> omega
 simp only [clsR] at g6 g7 hy;simp only [bf,f7] at e3 e6;refine ⟨O7,min m' m5,n5,by omega,p7.le (by omega),by omega,by omega,fun w c hw=>?_⟩;have q7:nx6 (min w (min m' m5))=min w (min m' m5):=q6 _ (by omega);have e7:=e7 (min w (min m' m5)) c (by omega);by_cases hy0:y=[]
 ·rw [if_pos hy0] at hse;subst hy0;simp only [hse,throwT,bl,bj] at e3;simp (disch:=omega) [code187T1,hatX,g6,g7,hy,e3,e4,q4,q3,e5,e6,q7,e7,cr]
 ·rw [if_neg hy0] at hse;rw [hse] at e3;simp (disch:=omega) [code187T1,hatX,g6,g7,hy,hy0,e3,e4,q4,q3,e5,e6,q7,e7,cr]
end
end Go.Abs.Zm

namespace Go.Abs.Zm
open Go.Abs.Zd Go.Abs.Zh
variable {os O B:List AObj} {b w:Nat} {tN:Nat} {tb:List UInt8} {tv:AVal} {dep:Int} {n k:Nat}
section
attribute [-simp] getElem?_pos getElem?_neg List.all_eq_true sget
attribute [local simp] gz gs nltT nltF iltT iltF ileT nleT de jl jm jn
theorem t187_2 (h:Ws tN tb tv B O n k dep) (hn:0 < n) (hb:b≤tN) {j:Nat} (hs:Act tN tb tv B b dep 209 [.ptr (some (B.length,0))] j) (hk:k+(j+5)≤100000) {from':Int} :
  ∃ O' m n',n≤n'∧Ws tN tb tv B O' n' (k+(j+5)) dep∧tN≤m∧m≤B.length∧∀ (w:Nat) (c:AExit→St→Option (AVal × Heap)),w≤B.length →
   xK T code187T2 ⟨[(0,.val (.ptr (some (B.length,0)))),(2,.val (.int .i64 from')),(3,.val (.int .i64 (-1)))],⟨O,b,w⟩⟩ (k:=⟨c⟩)=c .normal ⟨[],⟨O',b,min w m⟩⟩:=by
 obtain ⟨hlt,hBO⟩:=h.len;obtain ⟨pc,pt,px,cc,ct,cx,nt,nx',bud,hat,_⟩:=h.at';obtain ⟨q,cs,v,rfl,_,h3,h4,h5⟩:=h.last hn hat
 have hn1:n≤9223372036854775807:=by obtain ⟨_,_,_,_,_,_,_,_,_,_,_,_,hn,_⟩:=h.ex;omega
 have w1:IntKind.i64.wrap ((n:Int) - 1)=((n - 1:Nat):Int):=by rw [de (by omega)]; omega
 have c0:¬ ((n - 1:Nat):Int) < 0:=by omega
 have c1:((n - 1:Nat):Int) < n:=by omega
 have t1:(n - 1)*7+7≤cs.length:=by
  have:(n - 1+1)*7=n*7:=by congr 1; omega
  omega
 generalize hn0:n - 1=l at *;by_cases hv:v=0
 ·obtain ⟨O1,m1,p1,l1,u1,e1⟩:=s210 h hb (by omega) (op:=167);obtain ⟨O2,m2,n2,k2,p2,l2,u2,e2⟩:=t187_1 p1 hb hs (by omega) (e:=n) (from':=from') (to':=n) (.inr ⟨n,rfl,by omega⟩);refine ⟨O2,min m1 m2,n2,by omega,p2.le (by omega),by omega,by omega,fun w c hw=>?_⟩;have e2:=e2 (min w m1) c (by omega);subst hv;simp (disch:=omega) [code187T2,hat,w1,c0,c1,h3,h5,e1,e2,cr]
 ·obtain ⟨O2,m2,n2,k2,p2,l2,u2,e2⟩:=t187_1 h hb hs (by omega) (e:=-1) (from':=from') (to':=n) (.inl rfl);refine ⟨O2,m2,n2,by omega,p2.le (by omega),by omega,by omega,fun w c hw=>?_⟩;have e2:=e2 w c (by omega);simp (disch:=omega) [code187T2,hat,w1,c0,c1,h3,h5,hv,e2,cr]
theorem s187 (hb:b≤tN) {j:Nat} (hs:Act tN tb tv B b dep 209 [.ptr (some (B.length,0))] j):Act tN tb tv B b dep 187 [.ptr (some (B.length,0))] (8+2*j):=fun O n k h hk=>by
 obtain ⟨hlt,hBO⟩:=h.len;obtain ⟨_,_,_,_,_,_,_,_,_,hat,_⟩:=h.at';obtain ⟨O1,m1,⟨n1,k1,p1⟩,l1,u1,e1⟩:=hs O _ _ h (by omega);obtain ⟨_,_,_,_,_,_,_,_,_,hat1,_⟩:=p1.at';obtain ⟨r2,O2,nx,g1,g2,g3,g4,g5,g6⟩:=p1.next hb (x:=3) (by decide) (by decide)
 by_cases hr:r2=1
 ·subst hr;obtain ⟨pc,pt,px,cc,ct,cx,nt,nx',bud,cs,h1,h6,h9,h7,hkw,_,_,p3⟩:=g2.put (b:=b) (x:=⟨187,0,0,[79,111,112,115],[],[],[]⟩) hb (by omega) ⟨by decide,by decide,by decide,by decide⟩;simp only [InsU.cells] at h7 p3;obtain ⟨O4,m4,p4,l4,u4,e4⟩:=s150 p3 hb (by omega) (op:=191) (nn:=0);obtain ⟨O5,m5,n5,k5,p5,l5,u5,e5⟩:=t187_2 p4 (by omega) hb hs (by omega) (from':=n);obtain ⟨m',q1,q2,q3⟩:=jg g5 (Nat.le_of_lt hlt);refine ⟨O5,min m1 (min m' (min m4 m5)),⟨n5,by omega,p5.le (by omega)⟩,by omega,by omega,fun w=>?_⟩;have e5:=fun w c hw=>e5 w c hw
  simp (disch:=omega) [au t187,code187,hat,e1,hat1,g6,-eb,h1,h7,h6,h9,hkw,q3,e4,e5,cr]
 ·obtain ⟨O4,m4,p4,l4,u4,e4⟩:=s150 g2 hb (by omega) (op:=0) (nn:=0);obtain ⟨O5,m5,n5,k5,p5,l5,u5,e5⟩:=t187_2 p4 (by omega) hb hs (by omega) (from':=n);obtain ⟨m',q1,q2,q3⟩:=jg g5 l4;refine ⟨O5,min m1 (min m' m5),⟨n5,by omega,p5.le (by omega)⟩,by omega,by omega,fun w=>?_⟩;simp (disch:=omega) [au t187,code187,hat,e1,hat1,g6,hr,natInt1,q3,e4,e5,cr]
end
end Go.Abs.Zm

namespace Go.Abs.Zm
open Go.Abs.Zd Go.Abs.Zh
variable {os O B:List AObj} {b w:Nat} {tN:Nat} {tb:List UInt8} {tv:AVal} {n k:Nat} {dep:Int}
set_option maxHeartbeats 3000000 in
theorem r152 (hb:b≤tN) (h:Ws tN tb tv B O n k dep) (hk:k+1≤100000) {v:AVal} :
  ∃ O' m,Ws tN tb tv B O' (n+1) (k+1) dep∧tN≤m∧m≤B.length∧∀ (w:Nat) (c:AExit→St→Option (AVal × Heap)),
   xK T code152R0 ⟨[(0,.val (.ptr (some (B.length,0)))),(181,.val v)],⟨O,b,w⟩⟩ (k:=⟨c⟩)=c .normal ⟨[],⟨O',b,min w m⟩⟩:=by
 obtain ⟨hlt,hBO⟩:=h.len;obtain ⟨_,_,_,_,_,_,_,_,_,hat,_⟩:=h.at';obtain ⟨r1,O1,nx1,f1,f2,f3,f4,f5,f6⟩:=h.next hb (x:=3) (by decide) (by decide)
 have hBO1:=f2.len.2;have hO1:O1.length=O.length:=f3;obtain ⟨r2,O2,nx,g1,g2,g3,g4,g5,g6⟩:=f2.next hb (x:=9) (by decide) (by decide)
 have hBO2:=g2.len.2;have hO2:O2.length=O.length:=g3.trans f3;obtain ⟨pc,pt,px,cc,ct,cx,nt,nx',bud,cs,h1,h6,h9,h7,hkw,hk1,hk2,h8⟩:=g2.put (b:=b) (x:=⟨132,r1,(r2:Int) - 4,[],[],[],[]⟩) hb (by omega) ⟨by simp,by simp,by simp,by simp⟩;have e11:=(g4 B.length (by omega)).symm.trans h1;have e0:=(f4 B.length (by omega)).symm.trans e11;obtain ⟨lw,_,_⟩:=g2.lows h1
 have hids:AVal.idsL cs=[]:=h8.codeIds (q:=O2.length+1) (o:=0) (cs:=cs) (by rw [db,if_pos rfl,if_pos (by simp; omega)]) (by
  rw [ap (by omega),ak (by simp)];simp)
 have hwl1:nx1 O.length=O.length∨nx1 O.length=tN:=by rcases f5 with g | g <;> rw [g] <;> omega
 have hwl:nx O.length=O.length∨nx O.length=tN:=by rcases g5 with g | g <;> rw [g] <;> omega
 refine ⟨_,min (nx1 O.length) (min (nx O.length) B.length),h8,by omega,by omega,fun w c=>?_⟩;have hm1:min O.length B.length=B.length:=by omega
 have hm2:min tN B.length=tN:=by omega
 have hm3:min O.length tN=tN:=by omega
 simp only [InsU.cells] at h7 ⊢;rw [hO2] at h7 ⊢;have hg0:∀ X:List AObj,(O2++X)[O.length]? = X[0]?:=fun X=>by rw [← hO2,dp]
 have hg1:∀ (X:List AObj) (i:Nat),(O2++X)[O.length+i]? = X[i]?:=fun X i=>by rw [← hO2,du]
 have hB1:∀ X:List AObj,(O2++X)[B.length]? = some (AObj.cells 6 [.ptr (some (tN,0)),.slice pc n cc,.slice pt nt ct,.slice px nx' cx,.int .i64 dep,.int .i64 bud]):=fun X=>(ag (by omega)).trans h1
 have hBn:B.length≠tN:=by omega
 cases pc with
 | none =>
  simp only [gw,lb] at h7 h9 ⊢
  rcases hwl1 with hwl1 | hwl1 <;> rcases hwl with hwl | hwl <;>
   simp (maxSteps:=3000000) (disch:=omega) [-getElem?_pos,-getElem?_neg,-List.all_eq_true,gz,gs,nltT,nltF,iltT,iltF,ileT,nleT,de,aw,benign,again,AVal.eqb,hO2,hO1,hg0,hg1,hB1,-sget,jl,jm,jn,-eb,code152R0,e0,f6,g6,h1,e11,h7,h9,hids,hm1,hm2,hm3,hwl,hwl1]
 | some q =>
  obtain ⟨i,o⟩:=q;obtain ⟨l1,l2⟩:=lw i o rfl;have hk0:∀ X:List AObj,(O2.set i .dead++X)[O.length]? = X[0]?:=fun X=>by rw [← hO2,ak (by simp)]; simp
  have hk1:∀ (X:List AObj) (j:Nat),(O2.set i .dead++X)[O.length+j]? = X[j]?:=fun X j=>by rw [← hO2,ak (by simp)]; simp
  have hi1:¬ i=O.length+1:=by omega
  have hi2:¬ O.length+1≤i:=by omega
  have hi3:¬ O.length≤i:=by omega
  have hi4:i < O.length:=by omega
  have hi5:i < O.length+1:=by omega
  have hiB:i≠B.length:=by omega
  have hit:i≠tN:=by omega
  simp only [gw,lb] at h7 h9 ⊢
  rcases hwl1 with hwl1 | hwl1 <;> rcases hwl with hwl | hwl <;>
   simp (maxSteps:=3000000) (disch:=omega) [-getElem?_pos,-getElem?_neg,-List.all_eq_true,gz,gs,nltT,nltF,iltT,iltF,ileT,nleT,de,aw,benign,again,AVal.eqb,hO2,hO1,hg0,hg1,hB1,-sget,jl,jm,jn,-eb,code152R0,e0,f6,g6,h1,e11,h7,h9,hids,hm1,hm2,hm3,hk0,hk1,hi1,hi2,hi3,hi4,hi5,hiB,hit,hwl,hwl1]
end Go.Abs.Zm

namespace Go.Abs.Zm
open Go.Abs.Zd Go.Abs.Zh
variable {os O B:List AObj} {b w:Nat} {tN:Nat} {tb:List UInt8} {tv:AVal} {dep:Int} {n k:Nat}
section
attribute [-simp] getElem?_pos getElem?_neg List.all_eq_true sget
attribute [local simp] gz gs nltT nltF iltT iltF ileT nleT de jl jm jn
set_option maxHeartbeats 1000000 in
theorem sw152 (hb:b≤tN) {j J:Nat} (hJ:13≤J) (hs:dep < 3→Act tN tb tv B b dep 209 [.ptr (some (B.length,0))] j) (hj:dep < 3→9+2*j≤J) (h:Ws tN tb tv B O n k dep) (hk:k+J≤100000) {r:Nat} (hr:r < 16) :
  ∃ O' m n',n≤n'∧Ws tN tb tv B O' n' (k+J) dep∧tN≤m∧m≤B.length∧∀ (w:Nat) (c:AExit→St→Option (AVal × Heap)),
   xK T ia ⟨[(0,.val (.ptr (some (B.length,0)))),(2,.val (.int .i64 r))],⟨O,b,w⟩⟩ (k:=⟨c⟩)=c .normal ⟨[],⟨O',b,min w m⟩⟩:=by
 obtain ⟨hlt,hBO⟩:=h.len;have hK1:KK 1=5:=rfl;have hK2:KK 2=11:=rfl;have hi1:Expr tN tb tv B b dep 151 1 5:=(mf hb 1 1 (by decide) (by decide) (by decide)).1;have hi2:Expr tN tb tv B b dep 151 2 11:=(mf hb 2 2 (by decide) (by decide) (by decide)).1;have hl2:Expr tN tb tv B b dep 183 2 11:=(mf hb 2 2 (by decide) (by decide) (by decide)).2 (by decide);obtain ⟨pc,pt,px,cc,ct,cx,nt,nx',bud,hat,_⟩:=h.at';by_cases c0:bud≤0∨r < 2
 ·obtain ⟨O1,m1,⟨n1,k1,p1⟩,l1,u1,e1⟩:=hi2 O n k h (by omega);obtain ⟨_,_,_,_,_,_,_,_,_,hat1,_⟩:=p1.at';obtain ⟨r2,O2,nx,g1,g2,g3,g4,g5,g6⟩:=p1.next hb (x:=2) (by decide) (by decide)
  obtain ⟨O3,m3,p3,l3,u3,e3⟩:=s150 g2 hb (by omega) (op:=54) (nn:=1+r2);obtain ⟨m',q1,q2,q3⟩:=jg g5 l3;refine ⟨O3,min m1 m',n1+1,by omega,p3.le (by omega),by omega,by omega,fun w c=>?_⟩;by_cases c1:bud≤0
  ·simp (disch:=omega) [ia,hat,c1,e1,hat1,g6,e3,q3,cr]
  ·have c2:(r:Int) < 2:=by omega
   simp (disch:=omega) [ia,hat,c1,c2,e1,hat1,g6,e3,q3,cr]
 have c1:¬ bud≤0:=by omega
 have c2:¬ (r:Int) < 2:=by omega
 have e0:r=2∨r=3∨r=4∨r=5∨r=6∨r=7∨r=8∨(r=9∧dep < 3)∨(r=10∧dep < 3)∨(r=11∧dep < 3)∨r=12∨r=13∨r=14∨(r=9∧¬ dep < 3)∨(r=10∧¬ dep < 3)∨(r=11∧¬ dep < 3)∨r=15:=by omega
 have dflt:(∀ v,∃ O' m,Ws tN tb tv B O' (n+1) (k+1) dep∧tN≤m∧m≤B.length∧∀ (w:Nat) (c:AExit→St→Option (AVal × Heap)),
   xK T code152R0 ⟨[(0,.val (.ptr (some (B.length,0)))),(181,.val v)],⟨O,b,w⟩⟩ (k:=⟨c⟩)=c .normal ⟨[],⟨O',b,min w m⟩⟩):=fun v=>r152 hb h (by omega)
 rcases e0 with rfl | rfl | rfl | rfl | rfl | rfl | rfl | ⟨rfl,cd⟩ | ⟨rfl,cd⟩ | ⟨rfl,cd⟩ | rfl | rfl | rfl | ⟨rfl,cd⟩ | ⟨rfl,cd⟩ | ⟨rfl,cd⟩ | rfl
 ·obtain ⟨O1,m1,⟨n1,k1,p1⟩,l1,u1,e1⟩:=hi2 O n k h (by omega);obtain ⟨O2,m2,p2,l2,u2,e2⟩:=s154 p1 hb (by omega) (op:=184) (c:=[115,121,115]) (m:=[112,114,105,110,116]) (d:=[40,73,41,86]) (by decide) (by decide) (by decide);refine ⟨O2,min m1 m2,n1+1,by omega,p2.le (by omega),by omega,by omega,fun w c=>?_⟩;simp (disch:=omega) [ia,hat,c1,c2,e1,e2,cr]
 ·obtain ⟨O1,m1,⟨n1,k1,p1⟩,l1,u1,e1⟩:=hl2 O n k h (by omega);obtain ⟨O2,m2,p2,l2,u2,e2⟩:=s150 p1 hb (by omega) (op:=55) (nn:=3);refine ⟨O2,min m1 m2,n1+1,by omega,p2.le (by omega),by omega,by omega,fun w c=>?_⟩;simp (disch:=omega) [ia,hat,c1,c2,e1,e2,cr]
 ·obtain ⟨O1,m1,⟨n1,k1,p1⟩,l1,u1,e1⟩:=s184 hb O n k h (by omega);obtain ⟨O2,m2,p2,l2,u2,e2⟩:=s150 p1 hb (by omega) (op:=58) (nn:=5);refine ⟨O2,min m1 m2,n1+1,by omega,p2.le (by omega),by omega,by omega,fun w c=>?_⟩;simp (disch:=omega) [ia,hat,c1,c2,e1,e2,cr]
 ·obtain ⟨O1,m1,p1,l1,u1,e1⟩:=s150 h hb (by omega) (op:=25) (nn:=5);obtain ⟨O2,m2,⟨n2,k2,p2⟩,l2,u2,e2⟩:=hi1 O1 _ _ p1 (by omega);obtain ⟨O3,m3,p3,l3,u3,e3⟩:=s154 p2 hb (by omega) (op:=181) (c:=[65]) (m:=[102]) (d:=[73]) (by decide) (by decide) (by decide);refine ⟨O3,min m1 (min m2 m3),n2+1,by omega,p3.le (by omega),by omega,by omega,fun w c=>?_⟩;simp (disch:=omega) [ia,hat,c1,c2,e1,e2,e3,cr]
 ·obtain ⟨O1,m1,⟨n1,k1,p1⟩,l1,u1,e1⟩:=hi1 O n k h (by omega);obtain ⟨O2,m2,p2,l2,u2,e2⟩:=s154 p1 hb (by omega) (op:=179) (c:=[77,97,105,110]) (m:=[115]) (d:=[73]) (by decide) (by decide) (by decide);refine ⟨O2,min m1 m2,n1+1,by omega,p2.le (by omega),by omega,by omega,fun w c=>?_⟩;simp (disch:=omega) [ia,hat,c1,c2,e1,e2,cr]
 ·obtain ⟨O1,m1,⟨n1,k1,p1⟩,l1,u1,e1⟩:=hi1 O n k h (by omega);obtain ⟨_,_,_,_,_,_,_,_,_,hat1,_⟩:=p1.at';obtain ⟨r2,O2,nx,g1,g2,g3,g4,g5,g6⟩:=p1.next hb (x:=2) (by decide) (by decide)
  obtain ⟨O3,m3,p3,l3,u3,e3⟩:=s150 g2 hb (by omega) (op:=188) (nn:=10 - 2*r2);obtain ⟨m',q1,q2,q3⟩:=jg g5 l3;obtain ⟨O4,m4,p4,l4,u4,e4⟩:=s150 p3 hb (by omega) (op:=58) (nn:=6+r2);refine ⟨O4,min m1 (min m' m4),n1+1+1,by omega,p4.le (by omega),by omega,by omega,fun w c=>?_⟩;simp (disch:=omega) [ia,hat,c1,c2,e1,hat1,g6,e3,q3,e4,cr]
 ·obtain ⟨O1,m1,p1,l1,u1,e1⟩:=s150 h hb (by omega) (op:=25) (nn:=6);obtain ⟨O2,m2,⟨n2,k2,p2⟩,l2,u2,e2⟩:=hi1 O1 _ _ p1 (by omega);obtain ⟨O3,m3,⟨n3,k3,p3⟩,l3,u3,e3⟩:=hi1 O2 _ _ p2 (by omega);obtain ⟨O4,m4,p4,l4,u4,e4⟩:=s150 p3 hb (by omega) (op:=79) (nn:=0);refine ⟨O4,min m1 (min m2 (min m3 m4)),n3+1,by omega,p4.le (by omega),by omega,by omega,fun w c=>?_⟩;simp (disch:=omega) [ia,hat,c1,c2,e1,e2,e3,e4,cr]
 ·have hjj:=hj cd;obtain ⟨O1,m1,⟨n1,k1,p1⟩,l1,u1,e1⟩:=s185 hb (hs cd) O n k h (by omega);refine ⟨O1,m1,n1,k1,p1.le (by omega),l1,u1,fun w c=>?_⟩;simp (disch:=omega) [ia,hat,c1,c2,cd,e1]
 ·have hjj:=hj cd;obtain ⟨O1,m1,⟨n1,k1,p1⟩,l1,u1,e1⟩:=s186 hb (hs cd) O n k h (by omega);refine ⟨O1,m1,n1,k1,p1.le (by omega),l1,u1,fun w c=>?_⟩;simp (disch:=omega) [ia,hat,c1,c2,cd,e1]
 ·have hjj:=hj cd;obtain ⟨O1,m1,⟨n1,k1,p1⟩,l1,u1,e1⟩:=s187 hb (hs cd) O n k h (by omega);refine ⟨O1,m1,n1,k1,p1.le (by omega),l1,u1,fun w c=>?_⟩;simp (disch:=omega) [ia,hat,c1,c2,cd,e1]
 ·obtain ⟨O1,m1,⟨n1,k1,p1⟩,l1,u1,e1⟩:=s188 hb O n k h (by omega);refine ⟨O1,m1,n1,k1,p1.le (by omega),l1,u1,fun w c=>?_⟩;simp (disch:=omega) [ia,hat,c1,c2,e1]
 ·obtain ⟨pc',pt',px',cc',ct',cx',nt',nx2,bud',cs,h1,h6,h9,h7,hkw,_,_,h8⟩:=h.put (b:=b) (x:=⟨18,0,0,[],[],[83],[104,105]⟩) hb (by omega) ⟨by decide,by decide,by decide,by decide⟩;simp only [InsU.cells] at h7 h8;have e:=hat.symm.trans h1;simp only [bt,AObj.cells.injEq,kx,AVal.slice.injEq,AVal.int.injEq,true_and,and_true] at e;obtain ⟨⟨rfl,rfl⟩,⟨rfl,rfl,rfl⟩,⟨rfl,rfl,rfl⟩,rfl⟩:=e;obtain ⟨O4,m4,p4,l4,u4,e4⟩:=s150 h8 hb (by omega) (op:=58) (nn:=7);refine ⟨O4,min B.length m4,n+1+1,by omega,p4.le (by omega),by omega,by omega,fun w c=>?_⟩;simp (disch:=omega) [ia,hat,c1,c2,-eb,h7,h6,h9,hkw,e4,InsU.cells,cr]
 ·obtain ⟨O1,m1,p1,l1,u1,e1⟩:=s150 h hb (by omega) (op:=25) (nn:=7);obtain ⟨O2,m2,p2,l2,u2,e2⟩:=s154 p1 hb (by omega) (op:=184) (c:=[115,121,115]) (m:=[112,114,105,110,116,84,101,120,116]) (d:=[40,91,66,41,86]) (by decide) (by decide) (by decide);refine ⟨O2,min m1 m2,n+1+1,by omega,p2.le (by omega),by omega,by omega,fun w c=>?_⟩;simp (disch:=omega) [ia,hat,c1,c2,e1,e2,cr]
 all_goals
  obtain ⟨O2,m2,p2,l2,u2,e2⟩:=dflt (.bool false);refine ⟨O2,m2,n+1,by omega,p2.le (by omega),l2,u2,fun w c=>?_⟩
 ·simp (disch:=omega) [ia,hat,c1,c2,cd,e2]
 ·simp (disch:=omega) [ia,hat,c1,c2,cd,e2]
 ·simp (disch:=omega) [ia,hat,c1,c2,cd,e2]
 ·simp (disch:=omega) [ia,hat,c1,c2,e2]
end
def JJ:Nat→Nat
 | 0=>13
 | r+1=>6*JJ r+13
theorem s152_of (hb:b≤tN) {j J:Nat} (hJ:13≤J) (hs:dep < 3→Act tN tb tv B b dep 209 [.ptr (some (B.length,0))] j) (hj:dep < 3→9+2*j≤J):Act tN tb tv B b dep 152 [.ptr (some (B.length,0))] J:=fun O n k h hk=>by
 obtain ⟨hlt,hBO⟩:=h.len;obtain ⟨pc,pt,px,cc,ct,cx,nt,nx',bud,hat,hset⟩:=h.at';have h1:=hset dep (IntKind.i64.wrap (bud - 1));have hset2:∀ y,(O.set B.length y)[B.length]? = some y:=fun y=>by rw [db,if_pos rfl,if_pos hBO]
 obtain ⟨r,O2,nx,g1,g2,g3,g4,g5,g6⟩:=h1.next hb (x:=16) (by decide) (by decide)
 obtain ⟨O3,m3,n3,q3,p3,l3,u3,e3⟩:=sw152 hb hJ hs hj g2 hk (r:=r) (by omega);obtain ⟨m',q4,q5,q6⟩:=jg g5 l3;have hmm2:min B.length m'=m':=by omega
 refine ⟨O3,m',⟨n3,q3,p3⟩,q4,by omega,fun w=>?_⟩;simp (disch:=omega) [-getElem?_pos,-getElem?_neg,-List.all_eq_true,gz,gs,nltT,nltF,iltT,iltF,ileT,nleT,de,-sget,jl,jm,jn,au t152,code152,hat,hset2,g6,e3,q6,hmm2]
theorem s152 (hb:b≤tN):∀ (r:Nat) (dep:Int),0≤dep→dep≤3→3 - dep≤r→Act tN tb tv B b dep 152 [.ptr (some (B.length,0))] (JJ r)
 | 0,dep,h0,h1,h2=>s152_of (j:=0) hb (ai _) (fun h=>by omega) (fun h=>by omega)
 | r+1,dep,h0,h1,h2=>s152_of (j:=3*JJ r) hb (by simp only [JJ]; omega) (fun h=>s209 hb h0 (by omega) (s152 hb r (dep+1) (by omega) (by omega) (by omega))) (fun h=>by simp only [JJ]; omega)
end Go.Abs.Zm

namespace Go.Abs
def renA (f:Nat→Nat):Option (Nat × Nat)→Option (Nat × Nat)
 | none=>none
 | some (i,o)=>some (f i,o)
theorem zbv (f:Nat→Nat) (a:Option (Nat × Nat)) (n:Nat) (c:Option Nat):(AVal.slice a n c).ren f = .slice (renA f a) n c:=by
 cases a with
 | none=>simp [AVal.ren,renA]
 | some p=>obtain ⟨i,o⟩:=p; simp [AVal.ren,renA]
theorem xj (f:Nat→Nat):∀ l:List AVal,AVal.renL f l=l.map (AVal.ren f)
 | []=>rfl
 | a :: l=>by simp only [AVal.renL,cf,xj f l]
theorem pm:∀ l:List AVal,AVal.idsL l=l.flatMap AVal.ids
 | []=>rfl
 | a :: l=>by simp only [AVal.idsL,ci,pm l]
structure Moves (f:Nat→Nat) (I:Nat→Prop) (n:Nat) (O O':List AObj):Prop where
 at':∀ i obj,I i→O[i]? = some obj→O'[f i]? = some (obj.ren f)
 cl:∀ i obj,I i→O[i]? = some obj→∀ j ∈ obj.ids,n≤j→I j
 up:∀ i,n≤i→n≤f i
section
variable {f:Nat→Nat} {I:Nat→Prop} {n:Nat} {O O':List AObj}
def over (n:Nat) (a:Option (Nat × Nat)):Prop:=∀ i o,a=some (i,o)→n≤i
def inI (I:Nat→Prop) (a:Option (Nat × Nat)):Prop:=∀ i o,a=some (i,o)→I i
theorem Moves.row (h:Moves f I n O O') {α β:Type} {e:Nat} {F:α→List AVal} {F':β→List AVal} {g:α→β} {L:List α} {a:Option (Nat × Nat)} (hR:Row O e F L a) (ha:inI I a) (hg:∀ x,AVal.renL f (F x)=F' (g x)):Row O' e F' (L.map g) (renA f a) :=
 ⟨fun hne=>by
  have hL:L≠[]:=fun e=>hne (by rw [e]; rfl)
  obtain ⟨b,o,cs,h1,h2,h3⟩:=hR.at' hL;subst h1;refine ⟨f b,o,AVal.renL f cs,rfl,h.at' b _ (ha b o rfl) h2,fun j y hy=>?_⟩;rw [cz] at hy;cases hx:L[j]? with
  | none=>rw [hx] at hy; cases hy
  | some x =>
   rw [hx] at hy;cases hy;obtain ⟨h4,h5⟩:=h3 j x hx;refine ⟨by rw [xj,gk]; exact h4,?_⟩;rw [← hg x,← h5,xj,xj,List.map_take,List.map_drop]⟩
theorem Moves.ids (h:Moves f I n O O') {α:Type} {e:Nat} {F:α→List AVal} {L:List α} {a:Option (Nat × Nat)} (hR:Row O e F L a) (ha:inI I a) {x:α} (hx:x ∈ L):∀ j ∈ AVal.idsL (F x),n≤j→I j:=by intro j hj hn;obtain ⟨k,hk⟩:=List.mem_iff_getElem?.1 hx;obtain ⟨b,o,cs,h1,h2,h3⟩:=hR.at' (ux hk);subst h1;refine h.cl b _ (ha b o rfl) h2 j ?_ hn;rw [← (h3 k x hk).2,pm,eu] at hj;obtain ⟨v,hv,hj⟩:=hj;show j ∈ AVal.idsL cs;rw [pm,eu];exact ⟨v,ot (List.mem_of_mem_take hv),hj⟩
theorem Moves.under (h:Moves f I n O O') {a:Option (Nat × Nat)} (ha:inI I a) (hu:under O.length a):under O'.length (renA f a):=by
 cases a with
 | none=>exact fun i o e=>by cases e
 | some p =>
  obtain ⟨i,o⟩:=p;intro j q e;simp only [renA,bt,eg] at e;obtain ⟨rfl,rfl⟩:=e;have hi:=hu i o rfl;exact aj (h.at' i _ (ha i o rfl) (ah hi))
theorem v5 {a:Option (Nat × Nat)} {m:Nat} {c:Option Nat} {l:List AVal} (hl:∀ j ∈ AVal.idsL l,n≤j→I j) (hm:AVal.slice a m c ∈ l) (ho:over n a):inI I a:=fun i o e=>by subst e;refine hl i ?_ (ho i o rfl);rw [pm,eu];exact ⟨_,hm,by simp [AVal.ids]⟩
def MapU.ren (f:Nat→Nat) (x:MapU):MapU:={ x with la:=renA f x.la,sa:=renA f x.sa }
def MethU.ren (f:Nat→Nat) (m:MethU):MethU:={ m with ca:=renA f m.ca,ta:=renA f m.ta,maps:=m.maps.map (MapU.ren f),xa:=renA f m.xa }
def UnitU.ren (f:Nat→Nat) (u:UnitU):UnitU:={ u with fa:=renA f u.fa,meths:=u.meths.map (MethU.ren f),ma:=renA f u.ma }
theorem ren_field (x:FieldU):AVal.renL f x.cells=x.cells:=by simp [FieldU.cells,AVal.renL,AVal.ren]
theorem ren_ins (x:InsU):AVal.renL f x.cells=x.cells:=by simp [InsU.cells,AVal.renL,AVal.ren]
theorem ren_trap (x:TrapU):AVal.renL f x.cells=x.cells:=by simp [TrapU.cells,AVal.renL,AVal.ren]
theorem xk (x:Str):AVal.renL f (dj x)=dj x:=by simp [dj,AVal.renL,AVal.ren]
theorem ren_map (x:MapU):AVal.renL f x.cells=(x.ren f).cells:=by simp [MapU.cells,AVal.renL,zbv,MapU.ren]
theorem ren_meth (m:MethU):AVal.renL f m.cells=(m.ren f).cells:=by simp [MethU.cells,AVal.renL,zbv,MethU.ren]
theorem ren_unitU (u:UnitU):AVal.renL f u.cells=(u.ren f).cells:=by simp [UnitU.cells,AVal.renL,zbv,UnitU.ren]
structure MapU.over (n:Nat) (x:MapU):Prop where
 l:Go.Abs.over n x.la
 s:Go.Abs.over n x.sa
structure MethU.over (n:Nat) (m:MethU):Prop where
 c:Go.Abs.over n m.ca
 t:Go.Abs.over n m.ta
 x:Go.Abs.over n m.xa
 xs:∀ x ∈ m.maps,x.over n
structure UnitU.over (n:Nat) (u:UnitU):Prop where
 f:Go.Abs.over n u.fa
 m:Go.Abs.over n u.ma
 ms:∀ m ∈ u.meths,m.over n
theorem ny {a:Option (Nat × Nat)} (hf:∀ i,n≤i→n≤f i) (h:Go.Abs.over n a):Go.Abs.over n (renA f a):=by
 cases a with
 | none=>exact fun i o e=>by cases e
 | some p =>
  obtain ⟨i,o⟩:=p;intro j q e;simp only [renA,bt,eg] at e;rw [← e.1]; exact hf i (h i o rfl)
theorem MapU.over.ren {x:MapU} (hf:∀ i,n≤i→n≤f i) (h:x.over n):(x.ren f).over n:=⟨ny hf h.l,ny hf h.s⟩
theorem MethU.over.ren {m:MethU} (hf:∀ i,n≤i→n≤f i) (h:m.over n):(m.ren f).over n:=⟨ny hf h.c,ny hf h.t,ny hf h.x,fun x hx=>by obtain ⟨y,hy,rfl⟩:=ei.1 hx;exact (h.xs y hy).ren hf⟩
theorem UnitU.over.ren {u:UnitU} (hf:∀ i,n≤i→n≤f i) (h:u.over n):(u.ren f).over n:=⟨ny hf h.f,ny hf h.m,fun x hx=>by obtain ⟨y,hy,rfl⟩:=ei.1 hx;exact (h.ms y hy).ren hf⟩
theorem MethU.fits.ren {m:MethU} (h:m.fits):(m.ren f).fits:=⟨h.name,h.desc,h.c,h.cs,h.t,h.ts,by simpa [MethU.ren] using h.x,fun x hx=>by obtain ⟨y,hy,rfl⟩:=ei.1 hx;have:=h.xs y hy;exact ⟨this.l,this.s,this.ls,this.ss⟩⟩
theorem UnitU.cap.ren {u:UnitU} (h:u.cap):(u.ren f).cap:=⟨h.f,by simpa [UnitU.ren] using h.m⟩
theorem UnitU.fits.ren {u:UnitU} (h:u.fits):(u.ren f).fits:=⟨h.name,h.super,h.f,h.fs,by simpa [UnitU.ren] using h.m,fun x hx=>by obtain ⟨y,hy,rfl⟩:=ei.1 hx;exact (h.ms y hy).ren,h.cap.ren⟩
theorem MapU.ok.move (h:Moves f I n O O') {x:MapU} (hx:x.ok O) (ho:x.over n) (hI:∀ j ∈ AVal.idsL x.cells,n≤j→I j):(x.ren f).ok O':=by
 have hl:inI I x.la:=v5 (m:=x.locals.length) (c:=x.lc) hI (by simp [MapU.cells]) ho.l;have hs:inI I x.sa:=v5 (m:=x.stack.length) (c:=x.sc) hI (by simp [MapU.cells]) ho.s;have h1:=h.row (F':=dj) (g:=id) hx.l hl fun y=>xk y
 have h2:=h.row (F':=dj) (g:=id) hx.s hs fun y=>xk y
 rw [List.map_id] at h1 h2;exact ⟨h1,hx.ln,h.under hl hx.lu,h2,hx.sn,h.under hs hx.su,hx.ls⟩
theorem MethU.ok.move (h:Moves f I n O O') {m:MethU} (hx:m.ok O) (ho:m.over n) (hI:∀ j ∈ AVal.idsL m.cells,n≤j→I j):(m.ren f).ok O':=by
 have hc:inI I m.ca:=v5 (m:=m.code.length) (c:=m.cc) hI (by simp [MethU.cells]) ho.c;have ht:inI I m.ta:=v5 (m:=m.traps.length) (c:=m.tc) hI (by simp [MethU.cells]) ho.t;have hm:inI I m.xa:=v5 (m:=m.maps.length) (c:=m.xc) hI (by simp [MethU.cells]) ho.x;have h1:=h.row (F':=InsU.cells) (g:=id) hx.c hc fun y=>ren_ins y
 have h2:=h.row (F':=TrapU.cells) (g:=id) hx.t ht fun y=>ren_trap y
 have h3:=h.row (F':=MapU.cells) (g:=MapU.ren f) hx.x hm fun y=>ren_map y
 rw [List.map_id] at h1 h2;refine ⟨hx.name,hx.desc,h1,hx.cn,h.under hc hx.cu,hx.cok,h2,hx.tn,h.under ht hx.tu,hx.tok,h3,by simpa [MethU.ren] using hx.xn,h.under hm hx.xu,fun x hxm=>?_⟩;obtain ⟨y,hy,rfl⟩:=ei.1 hxm;exact (hx.xok y hy).move h (ho.xs y hy) (h.ids hx.x hm hy)
theorem UnitU.ok.move (h:Moves f I n O O') {u:UnitU} (hx:u.ok O) (ho:u.over n) (hI:∀ j ∈ AVal.idsL u.cells,n≤j→I j):(u.ren f).ok O':=by
 have hf:inI I u.fa:=v5 (m:=u.fields.length) (c:=u.fc) hI (by simp [UnitU.cells]) ho.f;have hm:inI I u.ma:=v5 (m:=u.meths.length) (c:=u.mc) hI (by simp [UnitU.cells]) ho.m;have h1:=h.row (F':=FieldU.cells) (g:=id) hx.f hf fun y=>ren_field y
 have h3:=h.row (F':=MethU.cells) (g:=MethU.ren f) hx.m hm fun y=>ren_meth y
 rw [List.map_id] at h1;refine ⟨hx.name,hx.super,h1,hx.fn,h.under hf hx.fu,hx.fok,h3,by simpa [UnitU.ren] using hx.mn,h.under hm hx.mu,fun x hxm=>?_⟩;obtain ⟨y,hy,rfl⟩:=ei.1 hxm;exact (hx.mok y hy).move h (ho.ms y hy) (h.ids hx.m hm hy)
theorem zbw {i:Nat}:∀ {k:List Nat},i ∈ k→idxIn i k < k.length∧k[idxIn i k]? = some i
 | j :: k,h=>by
  by_cases e:j=i
  ·simp [idxIn,e]
  ·have:=zbw (k:=k) ((br.1 h).resolve_left fun x=>e x.symm);simp only [idxIn,e,if_false,az,jq];exact ⟨by omega,this.2⟩
theorem uh {h:Heap} {n0:Nat}:∀ (fu:Nat) (l acc:List Nat),(∀ i ∈ acc,n0≤i)→∀ i ∈ reach h n0 fu l acc,n0≤i
 | 0,l,acc,ha=>ha
 | _+1,[],acc,ha=>ha
 | fu+1,i :: r,acc,ha=>by
  unfold reach;split
  ·exact uh fu r acc ha
  ·split
   ·exact uh fu r acc ha
   ·exact uh fu _ _ fun j hj=>by
     rcases bp.1 hj with hj | hj
     ·exact ha j hj
     ·rw [d9.1 hj]; omega
theorem s5 {h0 h:Heap} {v:AVal} (hv:v.under h0.size=false) :
  (∃ w,dy h0 v h=(v,⟨h.objs,h.base,w⟩)∧(w=min h0.wmin h.wmin∨(w=h0.wmin∧h0.size≤h.wmin))) ∨
  (h0.size≤h.wmin∧∃ f I X,dy h0 v h=(v.ren f,⟨h0.objs++X,h0.base,h0.wmin⟩)∧Moves f I h0.size h.objs (h0.objs++X)∧(∀ j ∈ v.ids,h0.size≤j→I j)):=by
 unfold dy;by_cases hw:h.wmin < h0.size
 ·rw [if_pos hw]; exact .inl ⟨_,rfl,.inl rfl⟩
 ·rw [if_neg hw,hv];simp only [am,if_false];generalize hk:reach h h0.size 1000 v.ids []=k;have hge:∀ i ∈ k,h0.size≤i:=by rw [← hk]; exact uh _ _ _ (by simp)
  split
  ·rename_i hok;refine .inr ⟨by omega,fun i=>if i < h0.size then i else h0.size+idxIn i k,fun i=>i ∈ k,_,rfl,⟨fun i obj hi ho=>?_,fun i obj hi ho j hj hn=>?_,fun i hi=>?_⟩,fun j hj hn=>?_⟩
   ·have h1:=hge i hi;obtain ⟨h2,h3⟩:=zbw hi;have h4:¬ i < h0.size:=by omega
    simp only [if_neg h4];have h5:h0.size=h0.objs.length:=rfl;rw [h5,ak (by omega),pg,cz,h3];have h6:h.get i=some obj:=ho;simp only [bw,h6,cq]
   ·rw [al] at hok;have h6:h.get i=some obj:=ho;have:=hok j (gx _ (eu.2 ⟨i,hi,by rw [h6]; exact hj⟩));simp only [ep,decide_eq_true_eq] at this;rcases this with h7 | h7
    ·omega
    ·simpa using h7
   ·show h0.size≤if i < h0.size then i else h0.size+idxIn i k
    rw [if_neg (by omega)]; omega
   ·rw [al] at hok;have:=hok j (fw _ hj);simp only [ep,decide_eq_true_eq] at this;rcases this with h7 | h7
    ·omega
    ·simpa using h7
  ·exact .inl ⟨_,rfl,.inr ⟨rfl,by omega⟩⟩
end
end Go.Abs

namespace Go.Abs.Zm
open Go.Abs.Zd Go.Abs.Zh
variable {os O B:List AObj} {b w:Nat} {tN:Nat} {tb:List UInt8} {tv:AVal} {dep:Int} {n k:Nat}
theorem Ws.start {p:Nat} (ht:Tape O tN tb tv p) (hv:TapeV O tN tb tv):Ws tN tb tv O (O++[.cells 6 [.ptr (some (tN,0)),.slice none 0 (some 0),.slice none 0 (some 0),.slice none 0 (some 0),.int .i64 0,.int .i64 60]]) 0 0 0:=by
 have hlt:=aj ht.at';refine ⟨none,none,none,some 0,some 0,some 0,[],[],[],60,?_,rfl,ai _,ai _,ai _⟩;constructor
 ·intro i hi _; rw [ag hi]
 ·exact ⟨p,by rw [ag hlt]; exact ht.at',ht.le,ht.small⟩
 ·exact hv
 ·exact hlt
 ·rw [dp]; rfl
 ·exact ⟨fun _ _ e=>(by cases e),fun _=>⟨rfl,rfl⟩⟩
 ·exact ⟨fun _ _ e=>(by cases e),fun _=>⟨rfl,rfl⟩⟩
 ·exact ⟨fun _ _ e=>(by cases e),fun _=>⟨rfl,rfl⟩⟩
 ·exact fun _ _ _ e=>by cases e
 ·exact fun _ _ _ e=>by cases e
 ·exact fun _ _ _ e=>by cases e
 ·exact fun _ h=>by cases h
 ·exact fun _ h=>by cases h
 ·exact fun _ h=>by cases h
section
attribute [-simp] getElem?_pos getElem?_neg List.all_eq_true sget
attribute [local simp] gz gs nltT nltF iltT iltF ileT nleT de jl jm jn
theorem l101 {j:Nat} {v2:AVal} {v8:List AVal} (hs:Act tN tb tv B b dep 152 [.ptr (some (B.length,0))] j):∀ (i:Nat) (O:List AObj) (n k:Nat),i≤6→Ws tN tb tv B O n k dep→k+i*j≤100000 →
  ∃ O' m n',n≤n'∧Ws tN tb tv B O' n' (k+i*j) dep∧tN≤m∧m≤B.length∧∀ (w:Nat) (c:AExit→St→Option (AVal × Heap)),w≤B.length →
   xK T (.loop code101L0) ⟨[(2,.val v2),(8,.var v8),(9,.val (.ptr (some (B.length,0)))),(12,.val (.int .i64 i))],⟨O,b,w⟩⟩ (k:=⟨c⟩)=c (.exit 2) ⟨[(2,.val v2),(8,.var v8),(9,.val (.ptr (some (B.length,0))))],⟨O',b,min w m⟩⟩
 | 0,O,n,k,_,h,hk=>by
  obtain ⟨hlt,hBO⟩:=h.len;refine ⟨O,B.length,n,ai _,by simpa using h,by omega,ai _,fun w c hw=>?_⟩;rw [cg];have hmm:min w B.length=w:=by omega
  simp (disch:=omega) [code101L0,hmm]
 | i+1,O,n,k,hi,h,hk=>by
  have hm:(i+1)*j=j+i*j:=by rw [gg,Nat.one_mul,z6]
  obtain ⟨O1,m1,⟨n1,q1,p1⟩,l1,u1,e1⟩:=hs O n k h (by omega);obtain ⟨O2,m2,n2,q2,p2,l2,u2,e2⟩:=l101 (v2:=v2) (v8:=v8) hs i O1 n1 (k+j) (by omega) p1 (by omega);have ek:k+j+i*j=k+(i+1)*j:=by omega
  rw [ek] at p2;refine ⟨O2,min m1 m2,n2,by omega,p2,by omega,by omega,fun w c hw=>?_⟩;have e2:=e2 (min w m1) c (by omega);rw [cg];have c1:(0:Int) < (i:Int)+1:=by omega
  generalize ACode.loop code101L0=L at e2 ⊢;simp (disch:=omega) [code101L0,e1,e2,c1,cr]
end
def Keep1 (O O':List AObj):Prop:=∀ (q:Nat) (cs:List AVal),O[q]? = some (.cells 1 cs)→O'[q]? = some (.cells 1 cs)
section
attribute [-simp] getElem?_pos getElem?_neg List.all_eq_true
attribute [local simp] gz gs nltT nltF iltT iltF ileT nleT de
theorem s150k (h:Ws tN tb tv B O n k dep) (hb:b≤tN) (hk:k≤100000) {op nn:Int} :
  Did tN tb tv B b 150 [.ptr (some (B.length,0)),.int .u8 op,.int .i64 nn] (.tuple []) O fun O'=>Ws tN tb tv B O' (n+1) (k+1) dep∧Keep1 O O':=by
 obtain ⟨pc,pt,px,cc,ct,cx,nt,nx,bud,cs,h1,h2,h3,h4,h5,h6,h7,h8⟩:=h.code (x:=⟨op,nn,0,[],[],[],[]⟩) hb hk ⟨by simp,by simp,by simp,by simp⟩
 have hkeep:Keep1 O ((gw pc O++[AObj.cells 7 (InsU.cells ⟨op,nn,0,[],[],[],[]⟩),AObj.cells 7 cs]).set B.length (.cells 6 [.ptr (some (tN,0)),.slice (some (O.length+1,0)) (n+1) none,.slice pt nt ct,.slice px nx cx,.int .i64 dep,.int .i64 bud])):=fun q cs' hq=>by
  have hql:=aj hq;have hne:B.length≠q:=fun e=>by rw [← e,h1] at hq; simp at hq
  rw [ap hne,ag (by simpa using hql),lz fun o e=>?_]
  ·exact hq
  ·obtain ⟨pc',_,_,_,_,_,C,_,_,_,hW,_⟩:=h.ex;have e1:=h1.symm.trans hW.wr;simp only [wrO,bt,AObj.cells.injEq,kx,AVal.slice.injEq,true_and,and_true] at e1;obtain ⟨⟨e2,_⟩,_⟩:=e1;have:=(hW.c.some q o (by rw [← e2]; exact e)).2.2.2;rw [hq] at this; simp at this
 refine ⟨_,B.length,⟨h8,hkeep⟩,by omega,ai _,fun w=>?_⟩;have hkw:=h5 O.length (by omega);have h9:∀ X,(gw pc O++X)[B.length]? = _:=fun X=>(ag (l₂:=X) (by simpa using h3)).trans h6
 simp only [InsU.cells] at h7;simp (disch:=omega) [au t150,code150,-eb,h1,h7,h6,h9,hkw,InsU.cells]
theorem s153k (h:Ws tN tb tv B O n k dep) (hb:b≤tN) (hk:k≤100000) {x:Int} (hx:-100≤x) (hx2:x≤200) :
  Did tN tb tv B b 153 [.ptr (some (B.length,0)),.int .i64 x] (.tuple []) O fun O'=>Ws tN tb tv B O' (n+1) (k+1) dep∧Keep1 O O':=by
 obtain ⟨_,hBO⟩:=h.len;have c5:-128≤x:=by omega
 have c6:-32768≤x:=by omega
 have c7:x < 32768:=by omega
 have c8:IntKind.i64.wrap (3+x)=3+x:=de (by omega);by_cases c3:-1≤x∧x≤5
 ·obtain ⟨c1,c2⟩:=c3;obtain ⟨O1,m1,p1,l1,u1,e1⟩:=s150k h hb hk (op:=IntKind.u8.wrap (3+x)) (nn:=0);refine ⟨O1,m1,p1,l1,u1,fun w=>?_⟩;simp (disch:=omega) [au t153,code153,e1,c1,c2,c8]
 ·by_cases c4:x < 128
  ·obtain ⟨O1,m1,p1,l1,u1,e1⟩:=s150k h hb hk (op:=16) (nn:=x);refine ⟨O1,m1,p1,l1,u1,fun w=>?_⟩;by_cases c1:-1≤x
   ·have c2:¬ x≤5:=fun e=>c3 ⟨c1,e⟩
    simp (disch:=omega) [au t153,code153,e1,c1,c2,c4,c5]
   ·simp (disch:=omega) [au t153,code153,e1,c1,c4,c5]
  ·obtain ⟨O1,m1,p1,l1,u1,e1⟩:=s150k h hb hk (op:=17) (nn:=x);refine ⟨O1,m1,p1,l1,u1,fun w=>?_⟩;have c1:-1≤x:=by omega
   have c2:¬ x≤5:=by omega
   simp (disch:=omega) [au t153,code153,e1,c1,c2,c4,c5,c6,c7]
end
def rowT:List AVal:=[.int .i64 1,.int .i64 2]
section
attribute [-simp] getElem?_pos getElem?_neg List.all_eq_true sget
attribute [local simp] gz gs nltT nltF iltT iltF ileT nleT de jl jm jn
theorem l101b (hb:b≤tN) {q:Nat} {v2 v3:AVal} {v8:List AVal} (hq:B.length < q):∀ (j i:Nat) (O:List AObj) (n k:Nat),i+j=2→O[q]? = some (.cells 1 rowT)→Ws tN tb tv B O n k dep→k+2*j≤100000 →
  ∃ O' m n',n≤n'∧Ws tN tb tv B O' n' (k+2*j) dep∧tN≤m∧m≤B.length∧∀ (w:Nat) (c:AExit→St→Option (AVal × Heap)),w≤B.length∨0 < j →
   xK T (.loop code101L1) ⟨[(0,.val (.ptr (some (tN,0)))),(2,.val v2),(3,.val v3),(8,.var v8),(9,.val (.ptr (some (B.length,0)))),(43,.val (.slice (some (q,0)) 2 (some 2))),(44,.val (.int .i64 2)),(45,.val (.int .i64 i))],⟨O,b,w⟩⟩ (k:=⟨c⟩) =
    c (.exit 0) ⟨[(0,.val (.ptr (some (tN,0)))),(2,.val v2),(3,.val v3),(8,.var v8),(9,.val (.ptr (some (B.length,0))))],⟨O',b,min w m⟩⟩
 | 0,i,O,n,k,hi,hO,h,hk=>by
  obtain ⟨hlt,hBO⟩:=h.len;obtain rfl:i=2:=by omega
  refine ⟨O,B.length,n,ai _,by simpa using h,by omega,ai _,fun w c hw=>?_⟩;have hmm:min w B.length=w:=by omega
  rw [cg];simp (disch:=omega) [code101L1,hmm]
 | j+1,i,O,n,k,hi,hO,h,hk=>by
  obtain ⟨hlt,hBO⟩:=h.len
  obtain ⟨y,hy⟩:∃ y,rowT[i]? = some (.int .i64 y):=by
   have:i=0∨i=1:=by omega
   rcases this with rfl | rfl <;> exact ⟨_,rfl⟩
  obtain ⟨r2,O1,nx,g1,g2,g3,g4,g5,g6⟩:=h.next hb (x:=4) (by decide) (by decide)
  obtain ⟨O2,m2,⟨p2,k2⟩,l2,u2,e2⟩:=s153k g2 hb (by omega) (x:=r2) (by omega) (by omega);obtain ⟨m',q1,q2,q3⟩:=jg g5 l2;obtain ⟨O3,m3,⟨p3,k3⟩,l3,u3,e3⟩:=s150k p2 hb (by omega) (op:=54) (nn:=y);have hO3:O3[q]? = some (.cells 1 rowT):=k3 q _ (k2 q _ (by rw [g4 q (by omega)]; exact hO));obtain ⟨O4,m4,n4,q4,p4,l4,u4,e4⟩:=l101b (v2:=v2) (v3:=v3) (v8:=v8) hb hq j (i+1) O3 (n+1+1) (k+1+1) (by omega) hO3 p3 (by omega);refine ⟨O4,min m' (min m3 m4),n4,by omega,p4.le (by omega),by omega,by omega,fun w c hw=>?_⟩;have e4:=e4 (min w (min m' m3)) c (.inl (by omega));have e5:((i+1:Nat):Int)=(i:Int)+1:=by omega
  have c1:(i:Int) < 2:=by omega
  have c2:((i:Nat):Int)+1≤9223372036854775807:=by omega
  rw [e5] at e4;rw [cg];have hrl:rowT.length=2:=rfl;generalize ACode.loop code101L1=L at e4 ⊢;generalize rowT=R at *;simp (disch:=omega) [code101L1,c1,hO,hy,hrl,g6,e2,q3,e3,e4,cr]
end
end Go.Abs.Zm

namespace Go.Abs.Zm
open Go.Abs.Zd Go.Abs.Zh
variable {os O B:List AObj} {b w:Nat} {tN:Nat} {tb:List UInt8} {tv:AVal} {dep:Int} {n k:Nat} {pc pt px:Option (Nat × Nat)} {cc ct cx:Option Nat} {C:List InsU} {S:List TrapU} {M:List MapU} {bud:Int}
def descII:Str:=[40,73,41,73]
structure Made (O:List AObj) (tN:Nat) (tb:List UInt8) (tv:AVal) (st:Bool) (nm:Str) (O':List AObj) (m:MethU):Prop where
 st:m.st=st
 name:m.name=nm
 desc:m.desc=descII
 ok:m.ok O'
 over:m.over O.length
 fits:m.fits
 keep:∀ i,i < O.length→i≠tN→O'[i]? = O[i]?
 tape:∃ p,Tape O' tN tb tv p
 traps:∀ x ∈ m.traps,x.cls ∈ classesT
theorem gy {x:Nat} (h:x≤100):x≤big:=by show x≤9223372036854775807; omega
theorem ft {x:Nat} (h:x≤100000):x≤gt:=by show x≤140737488351232; omega
theorem cls_short {s:Str} (h:s ∈ classesT):s.length≤100:=by
 have:∀ t ∈ classesT,t.length≤100:=by decide
 exact this s h
theorem Wr.meth (h:Wr tN tb tv B O pc pt px cc ct cx C S M dep bud) (hc:C.length≤100000) (hS:S.length≤100000) (hM:M.length≤100000) {nm:Str} (hn:nm.length≤100) {st:Bool} {a l:Int} :
  Made B tN tb tv st nm O ⟨st,nm,descII,a,l,C,pc,cc,S,pt,ct,M,px,cx⟩ where
 st:=rfl
 name:=rfl
 desc:=rfl
 ok:=⟨gy hn,(show descII.length≤big by decide),Own.row (f:=InsU.cells) (fun _=>rfl) h.c,by show C.length≤9223372036854775807; omega,fun i o e=>aj (h.c.some i o e).2.2.2,fun x hx=>⟨gy (h.cok x hx).cls,gy (h.cok x hx).name,gy (h.cok x hx).desc,gy (h.cok x hx).text⟩,
  Own.row (f:=TrapU.cells) (fun _=>rfl) h.s,by show S.length≤9223372036854775807; omega,fun i o e=>aj (h.s.some i o e).2.2.2,fun x hx=>gy (cls_short (h.sok x hx)),
  Own.row (f:=MapU.cells) (fun _=>rfl) h.m,by show M.length≤9223372036854775807; omega,fun i o e=>aj (h.m.some i o e).2.2.2,fun x hx=>by
   obtain ⟨h1,h2⟩:=h.mok x hx
   exact ⟨h1.row,gy h1.len,fun i o e=>(h1.at' i o e).2.1,h2.row,gy h2.len,fun i o e=>(h2.at' i o e).2.1,fun t ht=>by
    rcases bp.1 ht with ht | ht
    ·exact gy (h1.short t ht)
    ·exact gy (h2.short t ht)⟩⟩
 over:=⟨fun i o e=>Nat.le_of_lt (h.c.some i o e).2.2.1,fun i o e=>Nat.le_of_lt (h.s.some i o e).2.2.1,fun i o e=>Nat.le_of_lt (h.m.some i o e).2.2.1,fun x hx=>by obtain ⟨h1,h2⟩:=h.mok x hx;exact ⟨fun i o e=>Nat.le_of_lt (h1.at' i o e).1,fun i o e=>Nat.le_of_lt (h2.at' i o e).1⟩⟩
 fits:=⟨ft (by show nm.length≤_; omega),ft (show descII.length≤100000 by decide),ft hc,fun x hx=>⟨ft (dq (h.cok x hx).cls (by decide)),ft (dq (h.cok x hx).name (by decide)),ft (dq (h.cok x hx).desc (by decide)),ft (dq (h.cok x hx).text (by decide))⟩,
  ft hS,fun x hx=>ft (dq (cls_short (h.sok x hx)) (by decide)),ft hM,fun x hx=>by obtain ⟨h1,h2⟩:=h.mok x hx;exact ⟨ft (dq h1.len (by decide)),ft (dq h2.len (by decide)),fun t ht=>ft (dq (h1.short t ht) (by decide)),fun t ht=>ft (dq (h2.short t ht) (by decide))⟩⟩
 keep:=h.keep
 tape:=h.tape
 traps:=h.sok
theorem Wr.meth2 (h:Wr tN tb tv B O pc pt px cc ct cx C S M dep bud) (hc:C.length≤100000) {nm:Str} (hn:nm.length≤100) {st:Bool} {a l:Int} :
  Made B tN tb tv st nm O ⟨st,nm,descII,a,l,C,pc,cc,[],none,some 0,[],none,some 0⟩:=by
 have h0:(0:Nat)≤gt:=dt _
 refine ⟨rfl,rfl,rfl,⟨gy hn,(show descII.length≤big by decide),Own.row (f:=InsU.cells) (fun _=>rfl) h.c,by show C.length≤9223372036854775807; omega,fun i o e=>aj (h.c.some i o e).2.2.2,fun x hx=>⟨gy (h.cok x hx).cls,gy (h.cok x hx).name,gy (h.cok x hx).desc,gy (h.cok x hx).text⟩,
  ⟨fun h=>absurd rfl h⟩,dt _,fun i o e=>(by cases e),fun x hx=>(by cases hx),⟨fun h=>absurd rfl h⟩,dt _,fun i o e=>(by cases e),fun x hx=>(by cases hx)⟩,
  ⟨fun i o e=>Nat.le_of_lt (h.c.some i o e).2.2.1,fun i o e=>(by cases e),fun i o e=>(by cases e),fun x hx=>by cases hx⟩,
  ⟨ft (by show nm.length≤_; omega),ft (show descII.length≤100000 by decide),ft hc,fun x hx=>⟨ft (dq (h.cok x hx).cls (by decide)),ft (dq (h.cok x hx).name (by decide)),ft (dq (h.cok x hx).desc (by decide)),ft (dq (h.cok x hx).text (by decide))⟩,h0,fun x hx=>(by cases hx),h0,fun x hx=>by cases hx⟩,h.keep,h.tape,fun x hx=>by cases hx⟩
theorem Made.fin {O1:List AObj} {st:Bool} {nm:Str} {m:MethU} (h:Made O tN tb tv st nm O1 m) (ht:∃ p,Tape O tN tb tv p) (hne:∃ i o,m.ca=some (i,o)) (w W:Nat) :
  ∃ m' O' w',dy ⟨O,b,w⟩ (.agg m.cells) ⟨O1,b,W⟩=(.agg m'.cells,⟨O',b,w'⟩)∧Made O tN tb tv st nm O' m'∧(w'=min w W∨w'=w):=by
 have hv:(AVal.agg m.cells).under (⟨O,b,w⟩:Heap).size=false:=by
  obtain ⟨i,o,e⟩:=hne;have:=h.over.c i o e;have h2:¬ i < O.length:=by omega
  simp [MethU.cells,AVal.under,AVal.unders,e,Heap.size,h2]
 rcases s5 (h:=⟨O1,b,W⟩) hv with ⟨w',h1,h2⟩ | ⟨h1,f,I,X,h2,h3,h4⟩
 ·exact ⟨m,O1,w',h1,h,by rcases h2 with h2 | h2 <;> simp_all⟩
 ·refine ⟨m.ren f,O++X,w,?_,⟨h.st,h.name,h.desc,h.ok.move h3 h.over h4,?_,?_,fun i hi _=>ag hi,?_,h.traps⟩,.inr rfl⟩
  ·rw [h2];simp only [AVal.ren,ren_meth]
  ·exact h.over.ren h3.up
  ·exact h.fits.ren
  ·obtain ⟨p,hp⟩:=ht;exact ⟨p,by rw [ag (aj hp.at')]; exact hp.at',hp.le,hp.small⟩
end Go.Abs.Zm

namespace Go.Abs.Zm
open Go.Abs.Zd Go.Abs.Zh
variable {os O B:List AObj} {b w:Nat} {tN:Nat} {tb:List UInt8} {tv:AVal} {dep:Int} {n k:Nat}
theorem Ws.made (h:Ws tN tb tv B O n k dep) (hn0:0 < n) (hk:k≤100000) {a0 a4 a5:AVal} {pc pt px:Option (Nat × Nat)} {n' nt nx:Nat} {cc ct cx:Option Nat} (hat:O[B.length]? = some (.cells 6 [a0,.slice pc n' cc,.slice pt nt ct,.slice px nx cx,a4,a5])) {nm:Str} (hn:nm.length≤100) {st:Bool} {a l:Int} :
  (∃ i o,pc=some (i,o))∧(∃ m:MethU,m.cells=[.bool st,.str nm,.str descII,.int .i64 a,.int .i64 l,.slice pc n' cc,.slice pt nt ct,.slice px nx cx]∧m.ca=pc∧Made B tN tb tv st nm O m) ∧
   ∃ m:MethU,m.cells=[.bool st,.str nm,.str descII,.int .i64 a,.int .i64 l,.slice pc n' cc,.slice none 0 (some 0),.slice none 0 (some 0)]∧m.ca=pc∧Made B tN tb tv st nm O m:=by
 obtain ⟨pc',pt',px',cc',ct',cx',C,S,M,bud,hW,rfl,h2,h3,h4⟩:=h.ex;have e:=hat.symm.trans hW.wr;simp only [wrO,bt,AObj.cells.injEq,kx,AVal.slice.injEq,true_and,and_true] at e;obtain ⟨_,⟨rfl,rfl,rfl⟩,⟨rfl,rfl,rfl⟩,⟨rfl,rfl,rfl⟩,_⟩:=e;refine ⟨?_,⟨_,rfl,rfl,hW.meth (by omega) (by omega) (by omega) hn⟩,⟨_,rfl,rfl,hW.meth2 (by omega) hn⟩⟩;cases pc with
 | none=>have:=(hW.c.none rfl).1; rw [this] at hn0; simp at hn0
 | some q=>exact ⟨q.1,q.2,rfl⟩
def acts101:List Int:=[96,104,130]
theorem s101a {p:Nat} (ht:Tape O tN tb tv p) (hv:TapeV O tN tb tv) (hb:b≤tN) {nm:Str} (hn:nm.length≤100) {most:Int} (w:Nat) :
  ∃ m O' w',xCall T 101 [.ptr (some (tN,0)),.bool false,.str nm,.int .i64 most] ⟨O,b,w⟩=some (.agg m.cells,⟨O',b,w'⟩)∧Made O tN tb tv false nm O' m∧min w tN≤w'∧w'≤w:=by
 have h:=Ws.start ht hv;have hlt:=aj ht.at';obtain ⟨O1,m1,p1,l1,u1,e1⟩:=s150 h hb (by omega) (op:=21) (nn:=1);obtain ⟨O2,m2,p2,l2,u2,e2⟩:=s153 p1 hb (by omega) (x:=3) (by omega) (by omega);obtain ⟨O3,m3,p3,l3,u3,e3⟩:=s150 p2 hb (by omega) (op:=96) (nn:=0);obtain ⟨O4,m4,p4,l4,u4,e4⟩:=s150 p3 hb (by omega) (op:=25) (nn:=0);obtain ⟨O5,m5,p5,l5,u5,e5⟩:=s154 p4 hb (by omega) (op:=180) (c:=[65]) (m:=[102]) (d:=[73]) (by decide) (by decide) (by decide);obtain ⟨r2,O6,nx,g1,g2,g3,g4,g5,g6⟩:=(p5.app [.cells 1 (acts101.map (AVal.int .u8))]).next hb (x:=3) (by decide) (by decide)
 obtain ⟨y,hy⟩:=pj acts101 (r:=r2) (by simp only [acts101,az,bf]; omega);obtain ⟨O7,m7,p7,l7,u7,e7⟩:=s150 g2 hb (by omega) (op:=y) (nn:=0);obtain ⟨O8,m8,p8,l8,u8,e8⟩:=s150 p7 hb (by omega) (op:=172) (nn:=0);obtain ⟨m',q1,q2,q3⟩:=jg g5 l7;have g7:=g4 O5.length (by have:=p5.len.2; omega);rw [dp] at g7;simp only [acts101,cf,fm] at g6 g7 hy;obtain ⟨pc,pt,px,cc,ct,cx,nt,nx',bud,hat,_⟩:=p8.at';obtain ⟨hne,_,m,hm1,hm2,hm3⟩:=p8.made (by omega) (by omega) hat hn (st:=false) (a:=8) (l:=2);have hf:=fun W=>hm3.fin (b:=b) ⟨p,ht⟩ (by rw [hm2]; exact hne) w W
 obtain ⟨m'',O',w',f1,f2,f3⟩:=hf (min m1 (min m2 (min m3 (min m4 (min m5 (min m' m8))))));refine ⟨m'',O',w',?_,f2,by omega,by omega⟩;rw [hm1] at f1;simp only [descII,dk,Nat.reduceAdd] at f1;simp (disch:=omega) [-getElem?_pos,-getElem?_neg,-List.all_eq_true,gz,gs,nltT,nltF,iltT,iltF,ileT,nleT,de,-sget,jl,jm,jn,-dy,au t101,code101,e1,e2,e3,e4,e5,g6,g7,hy,e7,q3,e8,hat,f1,cr]
def zeroM:List AVal:=[.bool false,.str [],.str [],.int .i64 0,.int .i64 0,.slice none 0 (some 0),.slice none 0 (some 0),.slice none 0 (some 0)]
section
attribute [-simp] getElem?_pos getElem?_neg List.all_eq_true sget
attribute [local simp] gz gs nltT nltF iltT iltF ileT nleT de jl jm jn
theorem t101_0 (h:Ws tN tb tv B O n k 0) (hb:b≤tN) {j:Nat} (hs:Act tN tb tv B b 0 152 [.ptr (some (B.length,0))] j) (hk:k+(6*j+6)≤100000) {nm:Str} (hn:nm.length≤100) {most:Int} (hm1:1≤most) (hm6:most≤6) :
  ∃ (O':List AObj) (W:Nat) (m:MethU),(∃ i o,m.ca=some (i,o))∧tN≤W∧W≤B.length∧Made B tN tb tv true nm O' m∧∀ (w:Nat) (c:AExit→St→Option (AVal × Heap)),w≤B.length →
   xK T code101T0 ⟨[(0,.val (.ptr (some (tN,0)))),(2,.val (.str nm)),(3,.val (.int .i64 most)),(8,.var zeroM),(9,.val (.ptr (some (B.length,0))))],⟨O,b,w⟩⟩ (k:=⟨c⟩)=c .ret ⟨[(8,.var m.cells)],⟨O',b,min w W⟩⟩:=by
 obtain ⟨hlt,hBO⟩:=h.len;obtain ⟨r,O1,nx,g1,g2,g3,g4,g5,g6⟩:=h.next hb (x:=most) hm1 (by omega)
 have hrj:(r+1)*j≤6*j:=im _ (by omega);obtain ⟨O2,m2,n2,q2,p2,l2,u2,e2⟩:=l101 (v2:=.str nm) (v8:=zeroM) hs (r+1) O1 n k (by omega) g2 (by omega);have hi1:Expr tN tb tv B b 0 151 1 5:=(mf hb 1 1 (by decide) (by decide) (by decide)).1;obtain ⟨O3,m3,⟨n3,k3,p3⟩,l3,u3,e3⟩:=hi1 O2 _ _ p2 (by omega);obtain ⟨O4,m4,p4,l4,u4,e4⟩:=s150 p3 hb (by omega) (op:=172) (nn:=0);obtain ⟨pc,pt,px,cc,ct,cx,nt,nx',bud,hat,_⟩:=p4.at';obtain ⟨hne,⟨m,hm,hm2,hm3⟩,_⟩:=p4.made (by omega) (by omega) hat hn (st:=true) (a:=40) (l:=8);obtain ⟨m',q4,q5,q6⟩:=jg g5 l2;refine ⟨O4,min m' (min m3 m4),m,by rw [hm2]; exact hne,by omega,by omega,hm3,fun w c hw=>?_⟩;have e2:=fun c=>e2 (nx w) c (by rcases g5 with g | g <;> rw [g] <;> omega)
 simp only [Int.natCast_add,ce] at e2;have er:(1:Int)+r=r+1:=by omega
 rw [hm];simp only [descII,zeroM] at e2 ⊢;simp (disch:=omega) [code101T0,code101R0,g6,er,e2,q6,e3,e4,hat,cr]
theorem t101_1 (h:Ws tN tb tv B O n k 0) (hb:b≤tN) {j:Nat} (hs:Act tN tb tv B b 0 152 [.ptr (some (B.length,0))] j) (hk:k+(6*j+16)≤100000) {nm:Str} (hn:nm.length≤100) {most:Int} (hm1:1≤most) (hm6:most≤6) :
  ∃ (O':List AObj) (W:Nat) (m:MethU),(∃ i o,m.ca=some (i,o))∧tN≤W∧W≤B.length∧Made B tN tb tv true nm O' m∧∀ (w:Nat) (c:AExit→St→Option (AVal × Heap)),w≤B.length →
   xK T code101T1 ⟨[(0,.val (.ptr (some (tN,0)))),(2,.val (.str nm)),(3,.val (.int .i64 most)),(8,.var zeroM),(9,.val (.ptr (some (B.length,0))))],⟨O,b,w⟩⟩ (k:=⟨c⟩)=c .ret ⟨[(8,.var m.cells)],⟨O',b,min w W⟩⟩:=by
 obtain ⟨hlt,hBO⟩:=h.len;obtain ⟨O1,m1,p1,l1,u1,e1⟩:=s150 h hb (by omega) (op:=10) (nn:=0);obtain ⟨O2,m2,p2,l2,u2,e2⟩:=s150 p1 hb (by omega) (op:=55) (nn:=3);obtain ⟨pc,pt,px,cc,ct,cx,nt,nx',bud,cs,h1,h6,h9,h7,hkw,_,_,p3⟩:=p2.put (b:=b) (x:=⟨187,0,0,[65],[],[],[]⟩) hb (by omega) ⟨by decide,by decide,by decide,by decide⟩;simp only [InsU.cells] at h7 p3;obtain ⟨O4,m4,p4,l4,u4,e4⟩:=s150 p3 hb (by omega) (op:=58) (nn:=5);obtain ⟨r,O5,nx,g1,g2,g3,g4,g5,g6⟩:=p4.next hb (x:=5) (by decide) (by decide)
 obtain ⟨O6,m6,p6,l6,u6,e6⟩:=s153 g2 hb (by omega) (x:=r) (by omega) (by omega);obtain ⟨m',q1,q2,q3⟩:=jg g5 l6;obtain ⟨O7,m7,p7,l7,u7,e7⟩:=s150 p6 hb (by omega) (op:=188) (nn:=10);obtain ⟨O8,m8,p8,l8,u8,e8⟩:=s150 p7 hb (by omega) (op:=58) (nn:=6);obtain ⟨O9,m9,p9,l9,u9,e9⟩:=s150 p8 hb (by omega) (op:=1) (nn:=0);obtain ⟨O10,m10,p10,l10,u10,e10⟩:=s150 p9 hb (by omega) (op:=58) (nn:=7);obtain ⟨O',W,m,hne,hW1,hW2,hM,e11⟩:=t101_0 p10 hb hs (by omega) hn hm1 hm6;refine ⟨O',min m1 (min m2 (min B.length (min m4 (min m' (min m7 (min m8 (min m9 (min m10 W)))))))),m,hne,by omega,by omega,hM,fun w c hw=>?_⟩;generalize zeroM=z at *;simp (disch:=omega) [code101T1,e1,e2,-eb,h1,h7,h6,h9,hkw,e4,g6,e6,q3,e7,e8,e9,e10,e11,cr]
end
end Go.Abs.Zm

namespace Go.Abs.Zm
open Go.Abs.Zd Go.Abs.Zh
variable {os O B:List AObj} {b w:Nat} {tN:Nat} {tb:List UInt8} {tv:AVal} {dep:Int} {n k:Nat}
theorem s101b {p:Nat} (ht:Tape O tN tb tv p) (hv:TapeV O tN tb tv) (hb:b≤tN) {nm:Str} (hn:nm.length≤100) {most:Int} (hm1:1≤most) (hm6:most≤6) (w:Nat) :
  ∃ m O' w',xCall T 101 [.ptr (some (tN,0)),.bool true,.str nm,.int .i64 most] ⟨O,b,w⟩=some (.agg m.cells,⟨O',b,w'⟩)∧Made O tN tb tv true nm O' m∧min w tN≤w'∧w'≤w:=by
 have h:=(Ws.start ht hv).app [.cells 1 rowT];have hlt:=aj ht.at';have hJ:JJ 3=3367:=rfl;have hs:Act tN tb tv O b 0 152 [.ptr (some (O.length,0))] (JJ 3):=s152 hb 3 0 (by decide) (by decide) (by decide);obtain ⟨O1,m1,n1,k1,p1,l1,u1,e1⟩:=l101b (v2:=.str nm) (v3:=.int .i64 most) (v8:=zeroM) hb (q:=O.length+1) (by omega) 2 0 _ 0 0 rfl (by rw [ba,du]; rfl) h (by omega);obtain ⟨O2,W,m,hne,hW1,hW2,hM,e2⟩:=t101_1 p1 hb hs (by omega) hn hm1 hm6;obtain ⟨m'',O',w',f1,f2,f3⟩:=hM.fin (b:=b) ⟨p,ht⟩ hne w (min m1 W);refine ⟨m'',O',w',?_,f2,by omega,by omega⟩;have e1:=fun w c=>e1 w c (.inr (by decide))
 have e2:=fun c=>e2 m1 c u1
 simp only [zeroM,rowT,ce,ba,bl,bj] at e1 e2;have hml:m.cells.length=8:=rfl;have htk:List.take 8 m.cells=m.cells:=rfl;generalize m.cells=z at *;simp (disch:=omega) [-getElem?_pos,-getElem?_neg,-List.all_eq_true,gz,gs,nltT,nltF,iltT,iltF,ileT,nleT,de,-sget,jl,jm,jn,-dy,au t101,code101,e1,e2,f1,hml,htk,cr]
end Go.Abs.Zm

namespace Go.Abs.Zm
open Go.Abs.Zd Go.Abs.Zh
variable {os O P Q B:List AObj} {b w:Nat} {tN:Nat} {tb:List UInt8} {tv:AVal} {n:Nat}
structure KeepX (t:Nat) (P Q:List AObj):Prop where
 at':∀ i o,i≠t→P[i]? = some o→Q[i]? = some o
 len:P.length≤Q.length
theorem KeepX.app (t:Nat) (P X:List AObj):KeepX t P (P++X):=⟨fun i o _ h=>by rw [ag (aj h)]; exact h,by simp⟩
theorem KeepX.set (t:Nat) (P:List AObj) (y:AObj):KeepX t P (P.set t y):=⟨fun i o h1 h=>by rw [ap (Ne.symm h1)]; exact h,by simp⟩
theorem KeepX.trans {A B C:List AObj} {t:Nat} (h:KeepX t A B) (k:KeepX t B C):KeepX t A C:=⟨fun i o h1 h2=>k.at' i o h1 (h.at' i o h1 h2),dq h.len k.len⟩
theorem Made.keepX {st:Bool} {nm:Str} {m:MethU} (h:Made P tN tb tv st nm Q m):KeepX tN P Q:=by
 have hat:∀ i o,i≠tN→P[i]? = some o→Q[i]? = some o:=fun i o h1 h2=>by rw [h.keep i (aj h2) h1]; exact h2
 refine ⟨hat,?_⟩;rcases xt P.length with h0 | h0
 ·omega
 ·obtain ⟨p,hp⟩:=h.tape;have h3:=aj hp.at';by_cases e:P.length - 1=tN
  ·omega
  ·have:=aj (hat (P.length - 1) _ e (ah (by omega)));omega
theorem KeepX.row {t:Nat} (h:KeepX t P Q) {α:Type} {e:Nat} {f:α→List AVal} {L:List α} {a:Option (Nat × Nat)} (ho:over n a) (hn:t < n) (hR:Row P e f L a):Row Q e f L a :=
 ⟨fun hne=>by obtain ⟨i,o,cs,h1,h2,h3⟩:=hR.at' hne;have:=ho i o h1;exact ⟨i,o,cs,h1,h.at' i _ (by omega) h2,h3⟩⟩
theorem _root_.Go.Abs.MapU.ok.keep {t:Nat} (h:KeepX t P Q) (hn:t < n) {x:MapU} (ho:x.over n) (hx:x.ok P):x.ok Q:=⟨h.row ho.l hn hx.l,hx.ln,hx.lu.le h.len,h.row ho.s hn hx.s,hx.sn,hx.su.le h.len,hx.ls⟩
theorem _root_.Go.Abs.MethU.ok.keep {t:Nat} (h:KeepX t P Q) (hn:t < n) {m:MethU} (ho:m.over n) (hx:m.ok P):m.ok Q :=
 ⟨hx.name,hx.desc,h.row ho.c hn hx.c,hx.cn,hx.cu.le h.len,hx.cok,h.row ho.t hn hx.t,hx.tn,hx.tu.le h.len,hx.tok,h.row ho.x hn hx.x,hx.xn,hx.xu.le h.len,fun x hm=>(hx.xok x hm).keep h hn (ho.xs x hm)⟩
theorem rc {n m:Nat} {a:Option (Nat × Nat)} (h:over n a) (hm:m≤n):over m a:=fun i o e=>dq hm (h i o e)
theorem _root_.Go.Abs.MethU.over.mono {n k:Nat} {m:MethU} (h:m.over n) (hk:k≤n):m.over k:=⟨rc h.c hk,rc h.t hk,rc h.x hk,fun x hx=>⟨rc (h.xs x hx).l hk,rc (h.xs x hx).s hk⟩⟩
structure MOk (n:Nat) (P:List AObj) (st:Bool) (nm:Str) (m:MethU):Prop where
 st:m.st=st
 name:m.name=nm
 desc:m.desc=descII
 ok:m.ok P
 over:m.over n
 fits:m.fits
 traps:∀ x ∈ m.traps,x.cls ∈ classesT
theorem MOk.keep {t:Nat} (h:KeepX t P Q) (hn:t < n) {st:Bool} {nm:Str} {m:MethU} (hm:MOk n P st nm m):MOk n Q st nm m:=⟨hm.st,hm.name,hm.desc,hm.ok.keep h hn hm.over,hm.over,hm.fits,hm.traps⟩
theorem Made.mok {st:Bool} {nm:Str} {m:MethU} (h:Made P tN tb tv st nm Q m) (hn:n≤P.length):MOk n Q st nm m:=⟨h.st,h.name,h.desc,h.ok,h.over.mono hn,h.fits,h.traps⟩
structure Good (P:List AObj) (tN:Nat) (tb:List UInt8) (tv:AVal):Prop where
 tape:∃ p,Tape P tN tb tv p
 tv:TapeV P tN tb tv
theorem Good.keep (h:Good P tN tb tv) (k:KeepX tN P Q) (ht:∃ p,Tape Q tN tb tv p):Good Q tN tb tv:=by
 refine ⟨ht,?_⟩;obtain ⟨a,c,e,hr,hd⟩:=h.tv.row
 exact ⟨a,c,e,⟨fun hne=>by obtain ⟨i,o,cs,h1,h2,h3⟩:=hr.at' hne;exact ⟨i,o,cs,h1,k.at' i _ (hd i o h1) h2,h3⟩⟩,hd⟩
theorem Good.app (h:Good P tN tb tv) (X:List AObj):Good (P++X) tN tb tv:=by obtain ⟨p,hp⟩:=h.tape;exact h.keep (KeepX.app _ _ _) ⟨p,by rw [ag (aj hp.at')]; exact hp.at',hp.le,hp.small⟩
theorem Good.lt (h:Good P tN tb tv):tN < P.length:=by obtain ⟨p,hp⟩:=h.tape;exact aj hp.at'
theorem Good.next (h:Good P tN tb tv) (hb:b≤tN) {x:Int} (hx:1≤x) (hx2:x≤1000):∃ (r:Nat) (Q:List AObj) (nx:Nat→Nat),(r:Int) < x∧Good Q tN tb tv∧KeepX tN P Q∧Q.length=P.length∧((∀ w,nx w=w)∨(∀ w,nx w=min w tN))∧∀ w,xCall T 102 [.ptr (some (tN,0)),.int .i64 x] ⟨P,b,w⟩=some (.int .i64 r,⟨Q,b,nx w⟩):=by obtain ⟨p,hp⟩:=h.tape;obtain ⟨r,p',nx,q1,q2,q3,q4⟩:=s102 hp h.tv hb hx hx2;have hk:=KeepX.set tN P (tapeO tv p');exact ⟨r,_,nx,q1,h.keep hk ⟨p',by rw [db,if_pos rfl,if_pos h.lt],q2,hp.small⟩,hk,by simp,q3,q4⟩
theorem Good.body (h:Good P tN tb tv) (hb:b≤tN) {st:Bool} {nm:Str} (hn:nm.length≤100) {most:Int} (hm:st=true→1≤most∧most≤6) (w:Nat) :
  ∃ m Q w',xCall T 101 [.ptr (some (tN,0)),.bool st,.str nm,.int .i64 most] ⟨P,b,w⟩=some (.agg m.cells,⟨Q,b,w'⟩)∧Good Q tN tb tv∧KeepX tN P Q∧(∀ n,n≤P.length→MOk n Q st nm m)∧min w tN≤w'∧w'≤w:=by
 obtain ⟨p,hp⟩:=h.tape;have go:∀ {m:MethU} {Q:List AObj},Made P tN tb tv st nm Q m→Good Q tN tb tv∧KeepX tN P Q∧(∀ n,n≤P.length→MOk n Q st nm m):=fun hM=>⟨h.keep hM.keepX hM.tape,hM.keepX,fun n hn=>hM.mok hn⟩
 cases st with
 | false =>
  obtain ⟨m,Q,w',h1,h2,h3,h4⟩:=s101a hp h.tv hb hn (most:=most) w;obtain ⟨g1,g2,g3⟩:=go h2;exact ⟨m,Q,w',h1,g1,g2,g3,h3,h4⟩
 | true =>
  obtain ⟨m,Q,w',h1,h2,h3,h4⟩:=s101b hp h.tv hb hn (hm rfl).1 (hm rfl).2 w;obtain ⟨g1,g2,g3⟩:=go h2;exact ⟨m,Q,w',h1,g1,g2,g3,h3,h4⟩
end Go.Abs.Zm

namespace Go.Abs.Zm
open Go.Abs.Zd Go.Abs.Zh
variable {os O P Q B:List AObj} {b w:Nat} {tN:Nat} {tb:List UInt8} {tv:AVal} {n:Nat}
def mainT:Str:=[77,97,105,110]
def fieldsM:List FieldU:=[⟨true,[115],[73]⟩,⟨true,[111],[76,65,59]⟩]
def fieldsA:List FieldU:=[⟨false,[102],[73]⟩,⟨false,[108],[74]⟩,⟨false,[110,101,120,116],[76,65,59]⟩]
def fieldsB:List FieldU:=[⟨false,[103],[73]⟩]
def insO (x:Int):InsU:=⟨x,0,0,[],[],[],[]⟩
def helpM (q:Nat) (x y:Int):MethU:=⟨true,[104,101,108,112],descII,4,1,[insO 21,insO x,insO y,insO 172],some (q,0),some 4,[],none,some 0,[],none,some 0⟩
def actsH:List Int:=[100,108,112]
def uMain (f m:Nat) (m1 m2:MethU):UnitU:=⟨mainT,objectT,fieldsM,some (f,0),some 2,[m1,m2],some (m,0),some 2⟩
def uA (f m:Nat) (m1:MethU):UnitU:=⟨[65],objectT,fieldsA,some (f,0),some 3,[m1],some (m,0),some 1⟩
def uB (f:Nat) (ms:List MethU) (a:Option (Nat × Nat)) (c:Option Nat):UnitU:=⟨[66],[65],fieldsB,some (f,0),some 1,ms,a,c⟩
def uOops:UnitU:=⟨[79,111,112,115],[84,104,114,111,119,97,98,108,101],[],none,some 0,[],none,some 0⟩
theorem helpM_mok {q:Nat} {x y:Int} (hq:n≤q) (h:P[q]? = some (.cells 7 ([insO 21,insO x,insO y,insO 172].flatMap InsU.cells))):MOk n P true [104,101,108,112] (helpM q x y):=by
 have hlt:=aj h;have h0:(0:Nat)≤gt:=dt _;have hs:∀ z ∈ [insO 21,insO x,insO y,insO 172],z.cls=[]∧z.name=[]∧z.desc=[]∧z.text=[]:=by simp [insO]
 refine ⟨rfl,rfl,rfl,⟨by show (4:Nat)≤9223372036854775807; decide,(show descII.length≤big by decide),Row.mk0 (fun _=>rfl) h,by show (4:Nat)≤9223372036854775807; decide,fun i o e=>?_,fun z hz=>?_,⟨fun h=>absurd rfl h⟩,dt _,fun i o e=>(by cases e),fun z hz=>(by cases hz),⟨fun h=>absurd rfl h⟩,dt _,fun i o e=>(by cases e),fun z hz=>(by cases hz)⟩,
  ⟨fun i o e=>?_,fun i o e=>(by cases e),fun i o e=>(by cases e),fun z hz=>(by cases hz)⟩,⟨by show (4:Nat)≤140737488351232; decide,by show (4:Nat)≤140737488351232; decide,by show (4:Nat)≤140737488351232; decide,fun z hz=>?_,h0,fun z hz=>(by cases hz),h0,fun z hz=>(by cases hz)⟩,fun z hz=>(by cases hz)⟩
 ·simp only [helpM,bt,eg] at e; omega
 ·obtain ⟨h1,h2,h3,h4⟩:=hs z hz;rw [h1,h2,h3,h4]; exact ⟨dt _,dt _,dt _,dt _⟩
 ·simp only [helpM,bt,eg] at e; omega
 ·obtain ⟨h1,h2,h3,h4⟩:=hs z hz;unfold InsU.fits;rw [h1,h2,h3,h4]; exact ⟨dt _,dt _,dt _,dt _⟩
def sk (m:MethU):Bool × Str × Str:=(m.st,m.name,m.desc)
structure Skel (L:List UnitU):Prop where
 traps:∀ u ∈ L,∀ m ∈ u.meths,∀ t ∈ m.traps,t.cls ∈ classesT
 ex:∃ u1 u2 u3 u4,L=[u1,u2,u3,u4] ∧
  (u1.name=mainT∧u1.super=objectT∧u1.fields=fieldsM∧u1.meths.map sk=[(true,[109,97,105,110],descII),(true,[104,101,108,112],descII)]) ∧
  (u2.name=[65]∧u2.super=objectT∧u2.fields=fieldsA∧u2.meths.map sk=[(false,[118],descII)]) ∧
  (u3.name=[66]∧u3.super=[65]∧u3.fields=fieldsB∧(u3.meths.map sk=[]∨u3.meths.map sk=[(false,[118],descII)])) ∧
  (u4.name=[79,111,112,115]∧u4.super=[84,104,114,111,119,97,98,108,101]∧u4.fields=[]∧u4.meths.map sk=[])
end Go.Abs.Zm

namespace Go.Abs.Zm
open Go.Abs.Zd Go.Abs.Zh
variable {os O P Q B:List AObj} {b w:Nat} {tN:Nat} {tb:List UInt8} {tv:AVal} {n:Nat}
def unitsEnd (O:List AObj) (b w:Nat) (Q:List AObj) (W:Nat) (L:List UnitU):Option (AVal × Heap):=some (dy ⟨O,b,w⟩ (.slice (some (Q.length,0)) 4 (some 4)) ⟨Q++[.cells 4 (L.flatMap UnitU.cells)],b,W⟩)
section
attribute [-simp] getElem?_pos getElem?_neg List.all_eq_true sget
attribute [local simp] gz gs nltT nltF iltT iltF ileT nleT de jl jm jn
theorem t48_0 (hb:b≤P.length) {u1 u2 u3:UnitU} (w:Nat) (c:AExit→St→Option (AVal × Heap)) :
  xK T code48T0 ⟨[(3,.var u1.cells),(4,.var u2.cells),(5,.var u3.cells)],⟨P,b,w⟩⟩ (k:=⟨c⟩)=c .ret ⟨[(2,.val (.slice (some (P.length,0)) 4 (some 4)))],⟨P++[.cells 4 ([u1,u2,u3,uOops].flatMap UnitU.cells)],b,w⟩⟩:=by
 simp (disch:=omega) [code48T0,UnitU.cells,uOops]
theorem t48_1 (h:Good P tN tb tv) (hb:b≤tN) {u1 u2:UnitU} {f:Nat} (w:Nat) :
  ∃ Q W ms a c,Good Q tN tb tv∧KeepX tN P Q∧min w tN≤W∧W≤w∧(ms=[]∧a=none∧c=some 0∨∃ m q,ms=[m]∧a=some (q,0)∧c=some 1∧P.length≤q∧Q[q]? = some (.cells 8 m.cells)∧∀ n,tN < n→n≤P.length→MOk n Q false [118] m) ∧
   ∀ (k:AExit→St→Option (AVal × Heap)),xK T code48T1 ⟨[(0,.val (.ptr (some (tN,0)))),(3,.var u1.cells),(4,.var u2.cells),(5,.var (uB f [] none (some 0)).cells)],⟨P,b,w⟩⟩ (k:=⟨k⟩) =
    k .ret ⟨[(2,.val (.slice (some (Q.length,0)) 4 (some 4)))],⟨Q++[.cells 4 ([u1,u2,uB f ms a c,uOops].flatMap UnitU.cells)],b,W⟩⟩:=by
 obtain ⟨r,P1,nx,h1,g1,k1,l1,hnx,e1⟩:=h.next hb (x:=3) (by decide) (by decide)
 have hlt:=h.lt;have hnx2:min w tN≤nx w∧nx w≤w:=by rcases hnx with g | g <;> rw [g] <;> omega
 by_cases hr:r=0
 ·subst hr;have e2:=fun c=>t48_0 (P:=P1) (b:=b) (by omega) (u1:=u1) (u2:=u2) (u3:=uB f [] none (some 0)) (nx w) c
  refine ⟨P1,nx w,[],none,some 0,g1,k1,hnx2.1,hnx2.2,.inl ⟨rfl,rfl,rfl⟩,fun k=>?_⟩;generalize u1.cells=z1 at *;generalize u2.cells=z2 at *;simp (disch:=omega) [code48T1,e1,e2]
 ·obtain ⟨m,P2,w2,e2,g2,k2,hm,hw1,hw2⟩:=g1.body (st:=false) hb (nm:=[118]) (by decide) (most:=0) (fun h=>by cases h) (nx w);have hlt2:=g2.lt;have hk3:=KeepX.app tN P2 [.cells 8 m.cells];have e3:=fun c=>t48_0 (P:=P2++[.cells 8 m.cells]) (b:=b) (by simp; omega) (u1:=u1) (u2:=u2) (u3:=uB f [m] (some (P2.length,0)) (some 1)) w2 c
  refine ⟨P2++[.cells 8 m.cells],w2,[m],some (P2.length,0),some 1,g2.app _,(k1.trans k2).trans hk3,by omega,by omega,.inr ⟨m,P2.length,rfl,rfl,rfl,(k1.trans k2).len,by rw [dp]; rfl,fun n hn0 hn=>((hm n (by omega)).keep hk3 hn0)⟩,fun k=>?_⟩
  ·have hr2:(0:Int) < r:=by omega
   have hml:m.cells.length=8:=rfl;have htk:List.take 8 m.cells=m.cells:=rfl;generalize ([u1,u2,uB f [m] (some (P2.length,0)) (some 1),uOops].flatMap UnitU.cells)=R at e3 ⊢;have hc3:(uB f [m] (some (P2.length,0)) (some 1)).cells=[.str [66],.str [65],.slice (some (f,0)) 1 (some 1),.slice (some (P2.length,0)) 1 (some 1)]:=rfl;have hc4:(uB f [] none (some 0)).cells=[.str [66],.str [65],.slice (some (f,0)) 1 (some 1),.slice none 0 (some 0)]:=rfl;rw [hc3] at e3;rw [hc4];generalize u1.cells=z1 at *;generalize u2.cells=z2 at *;generalize m.cells=z at *;simp (disch:=omega) [code48T1,e1,hr2,e2,hml,htk,e3]
end
end Go.Abs.Zm

namespace Go.Abs.Zm
open Go.Abs.Zd Go.Abs.Zh
variable {os O P Q B:List AObj} {b w:Nat} {tN:Nat} {tb:List UInt8} {tv:AVal} {n:Nat}
def RowIs {α:Type} (Q:List AObj) (n e:Nat) (f:α→List AVal) (L:List α) (a:Option (Nat × Nat)):Prop:=L=[]∧a=none∨∃ q,a=some (q,0)∧n≤q∧Q[q]? = some (.cells e (L.flatMap f))
theorem RowIs.row {α:Type} {e:Nat} {f:α→List AVal} {L:List α} {a:Option (Nat × Nat)} (hf:∀ x,(f x).length=e) (h:RowIs Q n e f L a):Row Q e f L a∧under Q.length a∧over n a:=by
 rcases h with ⟨rfl,rfl⟩ | ⟨q,rfl,h1,h2⟩
 ·exact ⟨⟨fun h=>absurd rfl h⟩,fun i o e=>(by cases e),fun i o e=>(by cases e)⟩
 ·refine ⟨Row.mk0 hf h2,fun i o e=>?_,fun i o e=>?_⟩
  ·simp only [bt,eg] at e; have:=aj h2; omega
  ·simp only [bt,eg] at e; omega
theorem xh {u:UnitU} (hn:u.name.length≤100) (hs:u.super.length≤100) (hf:RowIs Q n 3 FieldU.cells u.fields u.fa) (hfl:u.fields.length≤100) (hfs:∀ x ∈ u.fields,x.name.length≤100∧x.desc.length≤100)
  (hm:RowIs Q n 8 MethU.cells u.meths u.ma) (hml:u.meths.length≤100) (hms:∀ x ∈ u.meths,∃ st nm,MOk n Q st nm x) (hcf:∀ k,u.fc=some k→u.fields.length≤k) (hcm:∀ k,u.mc=some k→u.meths.length≤k):u.ok Q∧u.fits∧u.over n:=by
 obtain ⟨f1,f2,f3⟩:=RowIs.row (f:=FieldU.cells) (fun _=>rfl) hf;obtain ⟨m1,m2,m3⟩:=RowIs.row (f:=MethU.cells) (fun _=>rfl) hm;have r:∀ {x:Nat},x≤100→x≤gt:=fun h=>ft (by omega)
 exact ⟨⟨gy hn,gy hs,f1,gy hfl,f2,fun x hx=>⟨gy (hfs x hx).1,gy (hfs x hx).2⟩,m1,gy hml,m2,fun x hx=>by obtain ⟨_,_,h⟩:=hms x hx; exact h.ok⟩,
  ⟨r hn,r hs,r hfl,fun x hx=>⟨r (hfs x hx).1,r (hfs x hx).2⟩,r hml,fun x hx=>(by obtain ⟨_,_,h⟩:=hms x hx; exact h.fits),⟨hcf,hcm⟩⟩,
  ⟨f3,m3,fun x hx=>by obtain ⟨_,_,h⟩:=hms x hx; exact h.over⟩⟩
theorem zbq {x:UInt8}:([x]:Str).length≤100:=by show 1≤100; decide
theorem nm100:mainT.length≤100∧objectT.length≤100:=by decide
theorem fs100:(fieldsM.length≤100∧∀ x ∈ fieldsM,x.name.length≤100∧x.desc.length≤100)∧(fieldsA.length≤100∧∀ x ∈ fieldsA,x.name.length≤100∧x.desc.length≤100)∧(fieldsB.length≤100∧∀ x ∈ fieldsB,x.name.length≤100∧x.desc.length≤100):=by
 refine ⟨⟨by decide,fun x hx=>?_⟩,⟨by decide,fun x hx=>?_⟩,by decide,fun x hx=>?_⟩
 ·simp only [fieldsM,br,d7,or_false] at hx;rcases hx with rfl | rfl <;> exact ⟨by show (_:Nat)≤100; decide,by show (_:Nat)≤100; decide⟩
 ·simp only [fieldsA,br,d7,or_false] at hx;rcases hx with rfl | rfl | rfl <;> exact ⟨by show (_:Nat)≤100; decide,by show (_:Nat)≤100; decide⟩
 ·simp only [fieldsB,br,d7,or_false] at hx;subst hx; exact ⟨by show (_:Nat)≤100; decide,by show (_:Nat)≤100; decide⟩
theorem s48_run (h:Good O tN tb tv) (hb:b≤tN):∃ (Q:List AObj) (W:Nat) (L:List UnitU),Good Q tN tb tv∧KeepX tN O Q∧tN≤W∧L.length=4∧Skel L∧(∀ u ∈ L,u.ok Q∧u.fits∧u.over O.length)∧∀ w,xCall T 48 [.ptr (some (tN,0))] ⟨O,b,w⟩=unitsEnd O b w Q W L:=by
 have hlt:=h.lt;have g1:=h.app [.cells 3 (fieldsM.flatMap FieldU.cells)];have k1:=KeepX.app tN O [.cells 3 (fieldsM.flatMap FieldU.cells)];obtain ⟨m1,P2,w2,e2,g2,k2,hm1,hw2,hw2'⟩:=g1.body (st:=true) hb (nm:=[109,97,105,110]) (by decide) (most:=6) (fun _=>⟨by decide,by decide⟩) O.length;obtain ⟨r1,P3,nx1,h3,g3,k3,l3,hnx3,e3⟩:=g2.next hb (x:=7) (by decide) (by decide)
 have g3b:=g3.app [.cells 1 (actsH.map (AVal.int .u8))];have k3b:=KeepX.app tN P3 [.cells 1 (actsH.map (AVal.int .u8))];obtain ⟨r2,P4,nx2,h4,g4,k4,l4,hnx4,e4⟩:=g3b.next hb (x:=3) (by decide) (by decide)
 obtain ⟨y,hy⟩:=pj actsH (r:=r2) (by simp only [actsH,az,bf]; omega);have hP3:=g3.lt;have hP4:=g4.lt;have hy4:P4[P3.length]? = some (.cells 1 (actsH.map (AVal.int .u8))):=k4.at' _ _ (by omega) (by rw [dp]; rfl);obtain ⟨x,hx⟩:∃ x:Int,x=IntKind.u8.wrap (2+(r1:Int)):=⟨_,rfl⟩;obtain ⟨X5,hX5⟩:∃ X,X=[AObj.cells 7 ([insO 21,insO x,insO y,insO 172].flatMap InsU.cells),AObj.cells 8 ([m1,helpM P4.length x y].flatMap MethU.cells)]:=⟨_,rfl⟩;have g5:=g4.app X5;have k5:=KeepX.app tN P4 X5;have g6:=g5.app [.cells 3 (fieldsA.flatMap FieldU.cells)];have k6:=KeepX.app tN (P4++X5) [.cells 3 (fieldsA.flatMap FieldU.cells)];obtain ⟨m2,P7,w3,e7,g7,k7,hm2,hw3,hw3'⟩:=g6.body (st:=false) hb (nm:=[118]) (by decide) (most:=0) (fun h=>by cases h) (nx2 (nx1 w2));have g8:=g7.app [.cells 8 m2.cells];have k8:=KeepX.app tN P7 [.cells 8 m2.cells];have g9:=g8.app [.cells 3 (fieldsB.flatMap FieldU.cells)]
 have k9:=KeepX.app tN (P7++[.cells 8 m2.cells]) [.cells 3 (fieldsB.flatMap FieldU.cells)];obtain ⟨Q,W,ms,a,c,gQ,kQ,hW1,hW2,hms,e9⟩:=t48_1 g9 hb (u1:=uMain O.length (P4.length+1) m1 (helpM P4.length x y)) (u2:=uA (P4.length+2) P7.length m2) (f:=P7.length+1) w3;have hP7:=g7.lt;have hlen5:(P4++X5).length=P4.length+2:=by rw [hX5]; simp
 have n1:tN≤nx1 w2:=by rcases hnx3 with g | g <;> rw [g] <;> omega
 have n2:tN≤nx2 (nx1 w2):=by rcases hnx4 with g | g <;> rw [g] <;> omega
 refine ⟨Q,W,[uMain O.length (P4.length+1) m1 (helpM P4.length x y),uA (P4.length+2) P7.length m2,uB (P7.length+1) ms a c,uOops],gQ,((((((((k1.trans k2).trans k3).trans k3b).trans k4).trans k5).trans k6).trans k7).trans (k8.trans k9)).trans kQ,by omega,rfl,?_,?_,fun w=>?_⟩
 ·have a1:=hm1 0 (dt _);have a2:=hm2 0 (dt _);have b1:sk m1=(true,[109,97,105,110],descII):=by unfold sk; rw [a1.st,a1.name,a1.desc]
  have b2:sk m2=(false,[118],descII):=by unfold sk; rw [a2.st,a2.name,a2.desc]
  refine ⟨fun u hu m hm t ht=>?_,_,_,_,_,rfl,⟨rfl,rfl,rfl,?_⟩,⟨rfl,rfl,rfl,?_⟩,⟨rfl,rfl,rfl,?_⟩,rfl,rfl,rfl,rfl⟩
  ·simp only [br,d7,or_false] at hu;rcases hu with rfl | rfl | rfl | rfl
   ·simp only [uMain,br,d7,or_false] at hm;rcases hm with rfl | rfl
    ·exact a1.traps t ht
    ·cases ht
   ·simp only [uA,br,d7,or_false] at hm;subst hm; exact a2.traps t ht
   ·rcases hms with ⟨rfl,_,_⟩ | ⟨m',q,rfl,_,_,_,_,h5⟩
    ·cases hm
    ·simp only [uB,br,d7,or_false] at hm;subst hm;exact (h5 (tN+1) (by omega) (by simp only [aq]; omega)).traps t ht
   ·cases hm
  ·show [sk m1,sk (helpM P4.length x y)]=_
   rw [b1]; rfl
  ·show [sk m2]=_
   rw [b2]
  ·rcases hms with ⟨rfl,_,_⟩ | ⟨m,q,rfl,_,_,_,_,h5⟩
   ·exact .inl rfl
   ·right;have a3:=h5 (tN+1) (by omega) (by simp only [aq]; omega);show [sk m]=_;unfold sk; rw [a3.st,a3.name,a3.desc]
 ·have kB:=((((((k3.trans k3b).trans k4).trans k5).trans k6).trans k7).trans (k8.trans k9)).trans kQ;have kC:=((k6.trans k7).trans (k8.trans k9)).trans kQ;have kD:=(k7.trans (k8.trans k9)).trans kQ;have kE:=(k8.trans k9).trans kQ;have kF:=k9.trans kQ;have hO1:O.length+1≤P2.length:=by have:=k2.len; simpa using this
  have hO3:O.length+1≤P4.length:=by have:=k3.len; have:=k3b.len; have:=k4.len; omega
  have hO7:O.length+1≤P7.length:=by have:=k7.len; simp only [aq,hlen5] at this; have:=hlen5; simp only [aq] at this; omega
  have q1:Q[O.length]? = some (.cells 3 (fieldsM.flatMap FieldU.cells)):=(k2.trans kB).at' _ _ (by omega) (by rw [dp]; rfl);have q2:Q[P4.length]? = some (.cells 7 ([insO 21,insO x,insO y,insO 172].flatMap InsU.cells)):=kC.at' _ _ (by omega) (by rw [dp,hX5]; rfl);have q3:Q[P4.length+1]? = some (.cells 8 ([m1,helpM P4.length x y].flatMap MethU.cells)):=kC.at' _ _ (by omega) (by rw [du,hX5]; rfl);have q4:Q[P4.length+2]? = some (.cells 3 (fieldsA.flatMap FieldU.cells)):=kD.at' _ _ (by omega) (by rw [← hlen5,dp]; rfl);have q5:Q[P7.length]? = some (.cells 8 ([m2].flatMap MethU.cells)):=kF.at' _ _ (by omega) (by rw [dp]; simp);have q6:Q[P7.length+1]? = some (.cells 3 (fieldsB.flatMap FieldU.cells)):=kQ.at' _ _ (by omega) (by rw [ba,du]; rfl);have a1:=(hm1 O.length (by simp)).keep kB hlt;have a2:=(hm2 O.length (by rw [aq,hlen5]; omega)).keep kE hlt
  have a3:=helpM_mok (n:=O.length) (by omega) q2;intro u hu;simp only [br,d7,or_false] at hu;rcases hu with rfl | rfl | rfl | rfl
  ·refine xh nm100.1 nm100.2 (.inr ⟨_,rfl,ai _,q1⟩) fs100.1.1 fs100.1.2 (.inr ⟨_,rfl,by omega,q3⟩) (by show 2≤100; decide) (fun z hz=>?_) (fun k hk=>by cases hk; exact ai _) (fun k hk=>by cases hk; exact ai _);simp only [uMain,br,d7,or_false] at hz;rcases hz with rfl | rfl
   ·exact ⟨_,_,a1⟩
   ·exact ⟨_,_,a3⟩
  ·refine xh zbq nm100.2 (.inr ⟨_,rfl,by omega,q4⟩) fs100.2.1.1 fs100.2.1.2 (.inr ⟨_,rfl,by omega,q5⟩) (by show 1≤100; decide) (fun z hz=>?_) (fun k hk=>by cases hk; exact ai _) (fun k hk=>by cases hk; exact ai _);simp only [uA,br,d7,or_false] at hz;subst hz;exact ⟨_,_,a2⟩
  ·rcases hms with ⟨rfl,rfl,rfl⟩ | ⟨m,q,rfl,rfl,rfl,h3,h4,h5⟩
   ·exact xh zbq zbq (.inr ⟨_,rfl,by omega,q6⟩) fs100.2.2.1 fs100.2.2.2 (.inl ⟨rfl,rfl⟩) (by show 0≤100; decide) (fun z hz=>by cases hz) (fun k hk=>by cases hk; exact ai _) (fun k hk=>by cases hk; exact ai _)
   ·have h3':O.length+1≤q:=by simp only [aq] at h3; omega
    refine xh zbq zbq (.inr ⟨_,rfl,by omega,q6⟩) fs100.2.2.1 fs100.2.2.2 (.inr ⟨_,rfl,by omega,by rw [h4]; simp [uB]⟩) (by show 1≤100; decide) (fun z hz=>?_) (fun k hk=>by cases hk; exact ai _) (fun k hk=>by cases hk; exact ai _);simp only [uB,br,d7,or_false] at hz;subst hz;exact ⟨_,_,h5 O.length hlt (by simp only [aq]; omega)⟩
  ·exact xh (by decide) (by decide) (.inl ⟨rfl,rfl⟩) (by decide) (by decide) (.inl ⟨rfl,rfl⟩) (by decide) (fun z hz=>by cases hz) (fun k hk=>by cases hk; exact ai _) (fun k hk=>by cases hk; exact ai _)
 ·unfold unitsEnd;subst hX5;simp only [actsH,cf,fm] at e4 hy hy4;have hml:m1.cells.length=8:=rfl;have htk:List.take 8 m1.cells=m1.cells:=rfl;have hml2:m2.cells.length=8:=rfl;have htk2:List.take 8 m2.cells=m2.cells:=rfl;have hc1:(uMain O.length (P4.length+1) m1 (helpM P4.length x y)).cells=[.str mainT,.str objectT,.slice (some (O.length,0)) 2 (some 2),.slice (some (P4.length+1,0)) 2 (some 2)]:=rfl;have hc2:(uA (P4.length+2) P7.length m2).cells=[.str [65],.str objectT,.slice (some (P4.length+2,0)) 3 (some 3),.slice (some (P7.length,0)) 1 (some 1)]:=rfl;have hc3:(uB (P7.length+1) [] none (some 0)).cells=[.str [66],.str [65],.slice (some (P7.length+1,0)) 1 (some 1),.slice none 0 (some 0)]:=rfl;rw [hc1,hc2,hc3] at e9;generalize ([uMain O.length (P4.length+1) m1 (helpM P4.length x y),uA (P4.length+2) P7.length m2,uB (P7.length+1) ms a c,uOops].flatMap UnitU.cells)=R at e9 ⊢
  simp only [fieldsM,fieldsA,fieldsB,ci,jo,FieldU.cells,bl,bj,co,ba,az,bf,dk,Nat.reduceAdd,insO,InsU.cells,MethU.cells,helpM,mainT,objectT,descII] at e2 e4 e7 e9 ⊢;simp (disch:=omega) [-getElem?_pos,-getElem?_neg,-List.all_eq_true,gz,gs,nltT,nltF,iltT,iltF,ileT,nleT,de,-sget,jl,jm,jn,-dy,au t48,code48,code48T4,code48T3,code48T2,e2,e3,e4,hy,hy4,e7,e9,hml,htk,hml2,htk2,← hx]
end Go.Abs.Zm

namespace Go.Abs.Zm
open Go.Abs.Zd Go.Abs.Zh
variable {os O P Q B:List AObj} {b w:Nat} {tN:Nat} {tb:List UInt8} {tv:AVal} {n:Nat}
theorem sk_ren (f:Nat→Nat):∀ L:List MethU,(L.map (MethU.ren f)).map sk=L.map sk
 | []=>rfl
 | m :: L=>by simp only [cf,sk_ren f L]; rfl
theorem Skel.ren {L:List UnitU} (h:Skel L) (f:Nat→Nat):Skel (L.map (UnitU.ren f)):=by
 obtain ⟨u1,u2,u3,u4,rfl,h1,h2,h3,h4⟩:=h.ex;have e:∀ u:UnitU,(u.ren f).meths.map sk=u.meths.map sk:=fun u=>sk_ren f u.meths
 have ht:∀ u ∈ [u1,u2,u3,u4].map (UnitU.ren f),∀ m ∈ u.meths,∀ t ∈ m.traps,t.cls ∈ classesT:=fun u hu m hm t htt=>by obtain ⟨v,hv,rfl⟩:=ei.1 hu;obtain ⟨m',hm',rfl⟩:=ei.1 hm;exact h.traps v hv m' hm' t htt
 refine ⟨ht,?_⟩;exact ⟨_,_,_,_,rfl,⟨h1.1,h1.2.1,h1.2.2.1,by rw [e]; exact h1.2.2.2⟩,⟨h2.1,h2.2.1,h2.2.2.1,by rw [e]; exact h2.2.2.2⟩,⟨h3.1,h3.2.1,h3.2.2.1,by rw [e]; exact h3.2.2.2⟩,h4.1,h4.2.1,h4.2.2.1,by rw [e]; exact h4.2.2.2⟩
theorem s48o (h:Good O tN tb tv) (hb:b≤tN) (w:Nat):∃ a c L O' w',xCall T 48 [.ptr (some (tN,0))] ⟨O,b,w⟩=some (.slice a 4 c,⟨O',b,w'⟩)∧L.length=4∧Row O' 4 UnitU.cells L a∧(∀ u ∈ L,u.ok O'∧u.fits∧u.over O.length)∧under O'.length a∧Skel L∧KeepX tN O O'∧min w tN≤w'∧w'≤w:=by
 obtain ⟨Q,W,L,gQ,kQ,hW,hL,hS,hu,hx⟩:=s48_run h hb;rw [hx w];unfold unitsEnd;have hlen:=kQ.len
 have hv:(AVal.slice (some (Q.length,0)) 4 (some 4)).under (⟨O,b,w⟩:Heap).size=false:=by
  have:¬ Q.length < O.length:=by omega
  simp [AVal.under,Heap.size,this]
 have hRow:Row (Q++[.cells 4 (L.flatMap UnitU.cells)]) 4 UnitU.cells L (some (Q.length,0)):=Row.mk0 (fun _=>rfl) (by rw [dp]; rfl);have hok:∀ u ∈ L,u.ok (Q++[.cells 4 (L.flatMap UnitU.cells)]):=fun u hm=>(hu u hm).1.pre (Pre.app _ _)
 rcases s5 (h:=⟨Q++[.cells 4 (L.flatMap UnitU.cells)],b,W⟩) hv with ⟨w',h1,h2⟩ | ⟨h1,f,I,X,h2,h3,h4⟩
 ·refine ⟨some (Q.length,0),some 4,L,_,w',by rw [h1],hL,hRow,fun u hm=>⟨hok u hm,(hu u hm).2⟩,fun i o e=>?_,hS,kQ.trans (KeepX.app _ _ _),?_,?_⟩
  ·simp only [bt,eg] at e; simp; omega
  ·rcases h2 with h2 | ⟨h2,_⟩
   ·simp only at h2; omega
   ·simp only at h2; omega
  ·rcases h2 with h2 | ⟨h2,_⟩
   ·simp only at h2; omega
   ·simp only at h2; omega
 ·have hin:inI I (some (Q.length,0)):=fun i o e=>by simp only [bt,eg] at e;rw [← e.1]; exact h4 _ (by simp [AVal.ids]) hlen
  have hR2:=h3.row (F':=UnitU.cells) (g:=UnitU.ren f) hRow hin fun u=>ren_unitU u
  refine ⟨renA f (some (Q.length,0)),some 4,L.map (UnitU.ren f),_,w,by rw [h2,zbv],by simpa using hL,hR2,fun u hm=>?_,h3.under hin (fun i o e=>?_),hS.ren f,KeepX.app _ _ _,km ..,ai _⟩
  ·obtain ⟨v,hv,rfl⟩:=ei.1 hm;exact ⟨(hok v hv).move h3 (hu v hv).2.2 (h3.ids hRow hin hv),(hu v hv).2.1.ren,(hu v hv).2.2.ren h3.up⟩
  ·simp only [bt,eg] at e; simp; omega
end Go.Abs.Zm

namespace Go.Abs.Zm
open Go.Abs.Zd Go.Abs.Zh
def SM:List (Str × Str):=builtS++[(mainT,objectT),([65],objectT),([66],[65]),([79,111,112,115],throwT)]
theorem map_one {α β:Type} {f:α→β} {L:List α} {x:β} (h:L.map f=[x]):∃ a,L=[a]∧f a=x:=by
 match L,h with
 | [a],h=>simp only [cf,fm,kx,and_true] at h; exact ⟨a,rfl,h⟩
theorem map_two {α β:Type} {f:α→β} {L:List α} {x y:β} (h:L.map f=[x,y]):∃ a c,L=[a,c]∧f a=x∧f c=y:=by
 match L,h with
 | [a,c],h=>simp only [cf,fm,kx,and_true] at h; exact ⟨a,c,rfl,h⟩
theorem trap_made {t:TrapU} (h:t.cls ∈ classesT):trapOk SM t=true:=by
 have:∀ c ∈ classesT,(decide (c=[]) || (gd SM c).isSome)=true:=by decide
 exact this _ h
theorem sy {m:MethU} (hd:m.desc=descII) (hn:isName m.name=true) (ht:∀ t ∈ m.traps,t.cls ∈ classesT):rightS SM m=true:=by
 have e:methL descII=some ([[73]],[73]):=by kernel_rfl
 unfold rightS;rw [hd,e,hn];simp only [dh,av];refine ⟨by kernel_rfl,al.2 fun t h=>trap_made (ht t h)⟩
def mainN:Str:=[109,97,105,110]
def helpN:Str:=[104,101,108,112]
def vN:Str:=[118]
def mkM (c n:Str) (st:Bool):Key × Mem:=((c,n,descII),⟨c,st⟩)
def FM:List (Key × Mem):=fieldsM.map (fieldE mainT)++fieldsA.map (fieldE [65])++fieldsB.map (fieldE [66])
def MM0:List (Key × Mem):=builtM++[mkM mainT mainN true,mkM mainT helpN true,mkM [65] vN false]
theorem overOk_eq (M:List (Key × Mem)) (m:MethU):overOk M m=fun c=>match gd M (c,m.name,m.desc) with
 | some y=>y.st == m.st
 | none=>true:=rfl
theorem worldS_made {L:List UnitU} (h:Skel L):∃ F M,worldS L=some (SM,F,M):=by
 obtain ⟨ht,u1,u2,u3,u4,rfl,⟨a1,a2,a3,a4⟩,⟨b1,b2,b3,b4⟩,⟨c1,c2,c3,c4⟩,d1,d2,d3,d4⟩:=h;obtain ⟨m1,m2,e1,f1,f2⟩:=map_two a4;obtain ⟨m3,e2,f3⟩:=map_one b4;have e4:u4.meths=[]:=List.map_eq_nil_iff.1 d4;simp only [sk,eg] at f1 f2 f3;have r1:rightS SM m1=true:=sy f1.2.2 (by rw [f1.2.1]; kernel_rfl) (ht u1 (by simp) m1 (by simp [e1]));have r2:rightS SM m2=true:=sy f2.2.2 (by rw [f2.2.1]; kernel_rfl) (ht u1 (by simp) m2 (by simp [e1]));have r3:rightS SM m3=true:=sy f3.2.2 (by rw [f3.2.1]; kernel_rfl) (ht u2 (by simp) m3 (by simp [e2]))
 have g1:supersS builtS [u1,u2,u3,u4]=some SM:=by simp only [supersS,superOk,a1,a2,b1,b2,c1,c2,d1,d2];kernel_rfl
 unfold worldS;rw [g1];rcases c4 with c4 | c4
 ·have e3:u3.meths=[]:=List.map_eq_nil_iff.1 c4;refine ⟨FM,MM0,?_⟩;simp only [az,bf,dk,Nat.reduceAdd,Nat.reduceLeDiff,if_true,membersS,unitOk,a1,a3,b1,b3,c1,c3,d1,d3,e1,e2,e3,e4,methsS,methOk,f1.1,f1.2.1,f1.2.2,f2.1,f2.2.1,f2.2.2,f3.1,f3.2.1,f3.2.2,r1,r2,r3,methE,cf,fm,dv,List.all_nil,overS,overM,overOk_eq];kernel_rfl
 ·obtain ⟨m4,e3,f4⟩:=map_one c4;simp only [sk,eg] at f4;have r4:rightS SM m4=true:=sy f4.2.2 (by rw [f4.2.1]; kernel_rfl) (ht u3 (by simp) m4 (by simp [e3]));refine ⟨FM,MM0++[mkM [66] vN false],?_⟩;simp only [az,bf,dk,Nat.reduceAdd,Nat.reduceLeDiff,if_true,membersS,unitOk,a1,a3,b1,b3,c1,c3,d1,d3,e1,e2,e3,e4,methsS,methOk,f1.1,f1.2.1,f1.2.2,f2.1,f2.2.1,f2.2.2,f3.1,f3.2.1,f3.2.2,r1,r2,r3,f4.1,f4.2.1,f4.2.2,r4,methE,cf,fm,dv,List.all_nil,overS,overM,overOk_eq];kernel_rfl
end Go.Abs.Zm

namespace Go.Abs.Zm
open Go.Abs.Zd Go.Abs.Zh
section
variable {S:List (Str × Str)}
end
def namesM:List Str:=SM.map (·.1)
theorem getE_names {c:Str} (h:gd SM c≠none):c ∈ namesM:=by
 have:∀ S:List (Str × Str),gd S c≠none→c ∈ S.map (·.1):=by
  intro S;induction S with
  | nil=>intro h; exact absurd rfl h
  | cons x S ih =>
   intro h;simp only [gd] at h;split at h
   ·rename_i e; rw [← e]; simp
   ·exact bu _ (ih h)
 exact this SM h
end Go.Abs.Zm

namespace Go.Abs.Zo
open Go.Abs.Zd Go.Abs.Zh
open Go.Abs.Zm hiding T sub
variable {os O:List AObj} {b w:Nat}
theorem subH:∀ g f,Zh.T g=some f→Zo.T g=some f:=fun g f h=>Zo.sub g f (Zm.sub g f h)
end Go.Abs.Zo

namespace Go.Abs.Zh
open Go.Abs.Zd
variable {os O:List AObj} {b w:Nat}
def gj (W:List UnitU) (n:Str):Option UnitU:=W.find? fun u=>decide (u.name=n)
def zeroU:List AVal:=[.str [],.str [],.slice none 0 (some 0),.slice none 0 (some 0)]
def cellsO:Option UnitU→List AVal
 | some u=>u.cells
 | none=>zeroU
section
attribute [-simp] getElem?_pos getElem?_neg
theorem l160 {W:List UnitU} {a:Option (Nat × Nat)} {c:Option Nat} (hR:Row O 4 UnitU.cells W a) (hl:W.length≤9223372036854775807) {n:Str}:∀ (j i:Nat) (w:Nat),i+j=W.length→∀ (k:AExit→St→Option (AVal × Heap)),
  xK T (.loop code160L0) ⟨[(1,.val (.str n)),(4,.var zeroU),(8,.val (.slice a W.length c)),(9,.val (.int .i64 W.length)),(10,.val (.int .i64 i))],⟨O,b,w⟩⟩ (k:=⟨k⟩) =
  match gj (W.drop i) n with
  | some u=>k .ret ⟨[(4,.var u.cells),(5,.val (.bool true))],⟨O,b,w⟩⟩
  | none=>k (.exit 0) ⟨[(4,.var zeroU)],⟨O,b,w⟩⟩
 | 0,i,w,hi,k=>by rw [cg,b0 (by omega)];simp (disch:=omega) [code160L0,iltF,gj]
 | j+1,i,w,hi,k=>by
  obtain ⟨u,hu⟩:∃ u,W[i]? = some u:=⟨_,ah (by omega)⟩;obtain ⟨p,o,cs,rfl,hpp,hpl,hcs,ht⟩:=j7 hR hu
  have hd:W.drop i=u :: W.drop (i+1):=by have:=aj hu;rw [ah this] at hu;rw [ed this,dg hu]
  have ih:=l160 (c:=c) hR hl (n:=n) j (i+1) w (by omega) k;have e2:((i+1:Nat):Int)=(i:Int)+1:=by omega
  rw [e2] at ih;have hcu:u.cells=[.str u.name,.str u.super,.slice u.fa u.fields.length u.fc,.slice u.ma u.meths.length u.mc]:=rfl;rw [hcu] at ht;rw [cg,hd];unfold gj at ih ⊢;rw [List.find?_cons];unfold zeroU at ih ⊢;by_cases e:u.name=n
  ·simp only [e,decide_true];generalize ACode.loop code160L0=L;simp (disch:=omega) [gz,gs,code160L0,nltT,nltF,iltT,ileT,nleT,de,hpp,ht,e,hcu]
  ·simp only [e,decide_false];rw [← ih];generalize ACode.loop code160L0=L;simp (disch:=omega) [gz,gs,code160L0,nltT,nltF,iltT,ileT,nleT,de,hpp,ht,e,hcu]
end
theorem nf {W:List UnitU} {n:Str} {u:UnitU} (h:gj W n=some u):u ∈ W∧u.name=n:=by unfold gj at h;exact ⟨List.mem_of_find?_eq_some h,by simpa using List.find?_some h⟩
theorem s160 {W:List UnitU} {a:Option (Nat × Nat)} {c:Option Nat} (hR:Row O 4 UnitU.cells W a) (hl:W.length≤9223372036854775807) (hok:∀ u ∈ W,u.low O.length) {n:Str} :
  xCall T 160 [.slice a W.length c,.str n] ⟨O,b,w⟩=some (.tuple [.agg (cellsO (gj W n)),.bool (gj W n).isSome],⟨O,b,w⟩):=by
 have hk:=fun w=>l160 (b:=b) (c:=c) hR hl (n:=n) W.length 0 w (by omega)
 simp only [ce,eo] at hk;cases hf:gj W n with
 | none =>
  rw [hf] at hk;simp only [zeroU] at hk;simp (disch:=omega) [-getElem?_pos,-getElem?_neg,gz,gs,au t160,code160,hk,cellsO,zeroU]
 | some u =>
  rw [hf] at hk;obtain ⟨hf1,hf2⟩:=hok u (nf hf).1;have h1:=under_val (n:=O.length) (m:=u.fields.length) (c:=u.fc) hf1;have h2:=under_val (n:=O.length) (m:=u.meths.length) (c:=u.mc) hf2;have hcu:u.cells=[.str u.name,.str u.super,.slice u.fa u.fields.length u.fc,.slice u.ma u.meths.length u.mc]:=rfl;simp only [zeroU,hcu] at hk;simp (disch:=omega) [-getElem?_pos,-getElem?_neg,gz,gs,au t160,code160,hk,cellsO,hcu,h1,h2]
def thereU (W:List UnitU) (t:Str):Bool:=match classOf (bare t) with
 | some c=>(gj W c).isSome
 | none=>true
section
attribute [-simp] getElem?_pos getElem?_neg
theorem l159 {v:AVal}:∀ (t:Str) (w:Nat),t.length≤9223372036854775807→∀ (k:AExit→St→Option (AVal × Heap)),
  xK T (.loop code159L0) ⟨[(0,.val v),(1,.val (.str t))],⟨O,b,w⟩⟩ (k:=⟨k⟩)=k (.exit 0) ⟨[(0,.val v),(1,.val (.str (bare t)))],⟨O,b,w⟩⟩
 | [],w,hn,k=>by rw [cg];simp (disch:=omega) [code159L0,bare]
 | x :: r,w,hn,k=>by
  simp only [az] at hn;have h0:(0:Int) < (r.length:Int)+1:=by omega
  have h1:(1:Int)≤(r.length:Int)+1:=by omega
  have e1:((x.toNat:Int)=91)=(x=91):=nv x 91 (by omega);have ih:=l159 (v:=v) r w (by omega) k;rw [cg];by_cases c1:x=91
  ·have hb:bare (x :: r)=bare r:=by simp [bare,c1]
   rw [hb,← ih];generalize ACode.loop code159L0=L;simp (disch:=omega) [gz,gs,code159L0,h0,h1,c1]
  ·have hb:bare (x :: r)=x :: r:=by simp [bare,c1]
   rw [hb];generalize ACode.loop code159L0=L;simp (disch:=omega) [gz,gs,code159L0,h0,h1,e1,c1]
end
theorem s159 {W:List UnitU} {a:Option (Nat × Nat)} {c:Option Nat} (hR:Row O 4 UnitU.cells W a) (hl:W.length≤9223372036854775807) (hok:∀ u ∈ W,u.low O.length) {t:Str} (hn:t.length≤9223372036854775807) :
  xCall T 159 [.slice a W.length c,.str t] ⟨O,b,w⟩=some (.bool (thereU W t),⟨O,b,w⟩):=by
 have hk:=fun w=>l159 (O:=O) (b:=b) (v:=.slice a W.length c) t w hn
 have hb:=qz t;have h33:=fun w=>s33 (os:=O) (b:=b) (w:=w) (s:=bare t) (by omega)
 have h160:=fun w n=>s160 (b:=b) (w:=w) (c:=c) hR hl hok (n:=n)
 rw [uv] at h33;have hz:∀ n,(cellsO (gj W n)).length=4:=fun n=>by cases gj W n <;> rfl
 unfold thereU;cases hc:classOf (bare t) with
 | none=>rw [hc] at h33; simp (disch:=omega) [-getElem?_pos,-getElem?_neg,gz,gs,au t159,code159,hk,h33,h160,hz]
 | some q=>rw [hc] at h33; simp (disch:=omega) [-getElem?_pos,-getElem?_neg,gz,gs,au t159,code159,hk,h33,h160,hz]
end Go.Abs.Zh

namespace Go.Abs.Zh
open Go.Abs.Zd
variable {os O:List AObj} {b w:Nat}
theorem ib_iff (c:UInt8):∀ s:Str,0≤Lib.indexByte s c ↔ ∃ x ∈ s,x=c
 | []=>by simp [Lib.indexByte]
 | x :: s=>by
  have ih:=ib_iff c s;have hge:=Lib.indexByte_ge s c;unfold Lib.indexByte;by_cases e:x=c
  ·simp [e]
  ·have e':(x == c)=false:=by simpa using e
   rw [e'];simp only [am,if_false,br,exists_eq_or_imp,e,false_or,← ih];by_cases h1:Lib.indexByte s c = -1
   ·simp [h1]
   ·have h2:(Lib.indexByte s c == -1)=false:=by simpa using h1
    rw [h2];simp only [am,if_false];omega
theorem ib_any (c:UInt8) (s:Str):decide (0≤Lib.indexByte s c)=s.any fun x=>decide (x=c):=by rw [md,decide_eq_true_eq,ib_iff];simp
section
attribute [-simp] getElem?_pos getElem?_neg
theorem l158 {s:Str} (hn:s.length≤9223372036854775807):∀ (j i:Nat) (w:Nat),i+j=s.length→∀ (k:AExit→St→Option (AVal × Heap)),
  xK T (.loop code158L0) ⟨[(0,.val (.str s)),(3,.val (.int .i64 i))],⟨O,b,w⟩⟩ (k:=⟨k⟩) =
  if (s.drop i).any (fun x=>decide (x=47)) then k .ret ⟨[(2,.val (.bool false))],⟨O,b,w⟩⟩ else k (.exit 0) ⟨[(0,.val (.str s))],⟨O,b,w⟩⟩
 | 0,i,w,hi,k=>by rw [cg,b0 (by omega)];simp (disch:=omega) [code158L0,iltF]
 | j+1,i,w,hi,k=>by
  obtain ⟨x,hx⟩:∃ x,s[i]? = some x:=⟨_,ah (by omega)⟩
  have hd:s.drop i=x :: s.drop (i+1):=by have:=aj hx;rw [ah this] at hx;rw [ed this,dg hx]
  have ih:=l158 hn j (i+1) w (by omega) k;have e2:((i+1:Nat):Int)=(i:Int)+1:=by omega
  rw [e2] at ih;have e1:((x.toNat:Int)=47)=(x=47):=nv x 47 (by omega);rw [cg,hd];simp only [List.any_cons];generalize ACode.loop code158L0=L at ih ⊢;by_cases c:x=47
  ·simp (disch:=omega) [gz,gs,code158L0,hx,iltT,ileT,nltT,nleT,de,c]
  ·simp (disch:=omega) [-List.any_eq_true,gz,gs,code158L0,hx,e1,iltT,ileT,nltT,nleT,de,c,ih]
end
theorem s158 {s:Str} (hn:s.length≤9223372036854775807):xCall T 158 [.str s] ⟨O,b,w⟩=some (.bool (isName s),⟨O,b,w⟩):=by
 have hl:=fun w k=>l158 (O:=O) (b:=b) hn s.length 0 w (by omega) k
 simp only [ce,eo] at hl;have h26:=fun w=>s26 (os:=O) (b:=b) (w:=w) hn
 unfold isName;rw [ib_any];rcases bc (s.any fun x=>decide (x=47)) with c | c
 ·simp only [c,if_true] at hl ⊢;simp (disch:=omega) [-getElem?_pos,-getElem?_neg,gz,gs,au t158,code158,hl]
 ·simp only [c,am,if_false] at hl ⊢;simp (disch:=omega) [-getElem?_pos,-getElem?_neg,gz,gs,au t158,code158,hl,h26]
def goL (W:List UnitU):Nat→Option UnitU→List UnitU
 | 0,_=>[]
 | _+1,none=>[]
 | k+1,some v=>v :: goL W k (gj W v.super)
def jc (W:List UnitU) (k:Nat) (n:Str):List UnitU:=goL W k (gj W n)
theorem ids_slice {n m:Nat} {a:Option (Nat × Nat)} {c:Option Nat} (h:under n a):∀ i ∈ (AVal.slice a m c).ids,i < n:=by
 cases a with
 | none=>simp [AVal.ids]
 | some p=>obtain ⟨j,o⟩:=p; simp only [AVal.ids,d9]; rintro i rfl; exact h _ _ rfl
theorem ids_unit {n:Nat} {u:UnitU} (h:u.low n):∀ i ∈ AVal.idsL u.cells,i < n:=by
 intro i hi;simp only [UnitU.cells,AVal.idsL,AVal.ids,bj,co,bp] at hi;rcases hi with hi | hi
 ·exact ids_slice h.f i hi
 ·exact ids_slice h.m i hi
theorem ym {n:Nat}:∀ {L:List UnitU},(∀ u ∈ L,u.low n)→∀ i ∈ AVal.idsL (L.flatMap UnitU.cells),i < n
 | [],_=>by simp [AVal.idsL]
 | u :: L,h=>by
  intro i hi;rw [ci,ov,bp] at hi;rcases hi with hi | hi
  ·exact ids_unit (h u (bh ..)) i hi
  ·exact ym (fun v hv=>h v (bu _ hv)) i hi
theorem ve {m:Nat} {a:Option (Nat × Nat)} {c:Option Nat}:(AVal.slice a m c).ids.length≤1:=by
 cases a with
 | none=>simp [AVal.ids]
 | some p=>simp [AVal.ids]
theorem qi:∀ {L:List UnitU},(AVal.idsL (L.flatMap UnitU.cells)).length≤2*L.length
 | []=>by simp [AVal.idsL]
 | u :: L=>by
  have ih:=qi (L:=L);have h1:=ve (m:=u.fields.length) (a:=u.fa) (c:=u.fc);have h2:=ve (m:=u.meths.length) (a:=u.ma) (c:=u.mc);rw [ci,ov,aq,az]
  have:(AVal.idsL u.cells).length=(AVal.slice u.fa u.fields.length u.fc).ids.length+(AVal.slice u.ma u.meths.length u.mc).ids.length:=by simp only [UnitU.cells,AVal.idsL,aq,bf,iz];simp [AVal.ids]
  omega
theorem ren_slice {n m:Nat} {a:Option (Nat × Nat)} {c:Option Nat} {f:Nat→Nat} (hf:∀ i,i < n→f i=i) (h:under n a):(AVal.slice a m c).ren f = .slice a m c:=by
 cases a with
 | none=>simp [AVal.ren]
 | some p=>obtain ⟨j,o⟩:=p; simp [AVal.ren,hf j (h _ _ rfl)]
theorem ren_unit {n:Nat} {u:UnitU} {f:Nat→Nat} (hf:∀ i,i < n→f i=i) (h:u.low n):AVal.renL f u.cells=u.cells:=by simp only [UnitU.cells,AVal.renL,ren_slice hf h.f,ren_slice hf h.m];simp [AVal.ren]
theorem yo {n:Nat} {f:Nat→Nat} (hf:∀ i,i < n→f i=i):∀ {L:List UnitU},(∀ u ∈ L,u.low n)→AVal.renL f (L.flatMap UnitU.cells)=L.flatMap UnitU.cells
 | [],_=>rfl
 | u :: L,h=>by rw [ci,xg,ren_unit hf (h u (bh ..)),yo hf fun v hv=>h v (bu _ hv)]
theorem yq {h:Heap} {n0:Nat} {acc:List Nat}:∀ (l:List Nat) (f:Nat),l.length < f→(∀ i ∈ l,i < n0)→reach h n0 f l acc=acc
 | [],f+1,_,_=>rfl
 | i :: l,f+1,hf,hl=>by rw [jd,if_pos (hl i (bh ..))];exact yq l f (by simp at hf; omega) fun j hj=>hl j (bu _ hj)
def rowV (n:Nat) (L:List UnitU):AVal:=if L=[] then .slice none 0 (some 0) else .slice (some (n,0)) L.length none
def rowO (O:List AObj) (L:List UnitU):List AObj:=if L=[] then O else O++[.cells 4 (L.flatMap UnitU.cells)]
theorem row_fin {G:List AObj} {L:List UnitU} {w0 w2:Nat} (hne:L≠[]) (hl:L.length≤400) (hlow:∀ u ∈ L,u.low O.length) (hw:O.length≤w2) :
  dy ⟨O,b,w0⟩ (.slice (some (O.length+G.length,0)) L.length none) ⟨O++(G++[.cells 4 (L.flatMap UnitU.cells)]),b,w2⟩=(.slice (some (O.length,0)) L.length none,⟨O++[.cells 4 (L.flatMap UnitU.cells)],b,w0⟩):=by
 have hg:(O++(G++[AObj.cells 4 (L.flatMap UnitU.cells)]))[O.length+G.length]? = some (.cells 4 (L.flatMap UnitU.cells)):=by rw [du,dp]; rfl
 have hlen:=qi (L:=L);have hids:=ym hlow
 have hr:reach ⟨O++(G++[AObj.cells 4 (L.flatMap UnitU.cells)]),b,w2⟩ O.length 1000 [O.length+G.length] []=[O.length+G.length]:=by rw [jd,if_neg (by omega),if_neg (by simp)];simp only [Heap.get,hg,bw,cq,idsC,co,bj];exact yq _ _ (by omega) hids
 have hv:AVal.under O.length (.slice (some (O.length+G.length,0)) L.length none)=false:=by simp [AVal.under]
 have hw2:(⟨O,b,w0⟩:Heap).size≤(⟨O++(G++[AObj.cells 4 (L.flatMap UnitU.cells)]),b,w2⟩:Heap).wmin:=hw;refine (ly hw2 hv hr fun i hi=>?_).trans ?_
 ·simp only [AVal.ids,ci,jo,Heap.get,hg,bw,cq,idsC,co,bl,bj,br] at hi;rcases hi with rfl | hi
  ·exact .inr (fb _)
  ·exact .inl (hids i hi)
 ·have hfv:(fun i=>if i < O.length then i else O.length+idxIn i [O.length+G.length]) (O.length+G.length)=O.length:=by
   show (if O.length+G.length < O.length then _ else _)=_
   rw [if_neg (by omega)]; simp [idxIn]
  have hren:AVal.renL (fun i=>if i < O.length then i else O.length+idxIn i [O.length+G.length]) (L.flatMap UnitU.cells)=L.flatMap UnitU.cells:=yo (n:=O.length) (fun i hi=>if_pos hi) hlow
  have key:∀ f:Nat→Nat,f (O.length+G.length)=O.length→AVal.renL f (L.flatMap UnitU.cells)=L.flatMap UnitU.cells →
    ((AVal.slice (some (O.length+G.length,0)) L.length none).ren f,(⟨O++[O.length+G.length].map fun i=>(((⟨O++(G++[AObj.cells 4 (L.flatMap UnitU.cells)]),b,w2⟩:Heap).get i).map (AObj.ren f)).getD .dead,b,w0⟩:Heap)) =
     (.slice (some (O.length,0)) L.length none,⟨O++[.cells 4 (L.flatMap UnitU.cells)],b,w0⟩):=by
   intro f h1 h2;simp only [AVal.ren,Heap.get,hg,bw,cq,cf,fm,renC,h1,h2]
  exact key _ hfv hren
def accV (n:Nat) (A:List UnitU):AVal:=if A=[] then .slice none 0 (some 0) else .slice (some (n,0)) A.length none
def accR (A:List UnitU):List AObj:=if A=[] then [] else [.cells 4 (A.flatMap UnitU.cells)]
theorem v7 (u:Option UnitU):(cellsO u).length=4:=by cases u <;> rfl
section
attribute [-simp] getElem?_pos getElem?_neg
theorem l112 {W:List UnitU} {a:Option (Nat × Nat)} {c:Option Nat} (hR:Row O 4 UnitU.cells W a) (hl:W.length≤200) (hok:∀ u ∈ W,u.low O.length) (hb:b≤O.length):∀ (j:Nat) (u:Option UnitU) (A:List UnitU) (G:List AObj) (w:Nat),A.length+j=W.length+1→O.length≤w →
  ∃ G' w',O.length≤w'∧∀ (k:AExit→St→Option (AVal × Heap)),
  xK T (.loop code112L0) ⟨[(0,.val (.slice a W.length c)),(5,.val (accV (O.length+G.length) A)),(6,.var (cellsO u)),(7,.val (.bool u.isSome))],⟨O++(G++accR A),b,w⟩⟩ (k:=⟨k⟩) =
  k (.exit 0) ⟨[(5,.val (accV (O.length+G'.length) (A++goL W j u)))],⟨O++(G'++accR (A++goL W j u)),b,w'⟩⟩
 | j,none,A,G,w,hj,hw=>by
  refine ⟨G,w,hw,fun k=>?_⟩;have e:goL W j none=[]:=by cases j <;> rfl
  rw [cg,e,co];generalize accV (O.length+G.length) A=v;simp (disch:=omega) [code112L0]
 | 0,some u,A,G,w,hj,hw=>by
  refine ⟨G,w,hw,fun k=>?_⟩;have hne:A≠[]:=by rintro rfl; simp at hj
  have hlt:¬ ((A.length:Int)≤W.length):=by omega
  rw [cg,show goL W 0 (some u)=[] from rfl,co];simp only [accV,hne,if_false];simp (disch:=omega) [code112L0,hlt]
 | j+1,some u,A,G,w,hj,hw=>by
  have hle:((A.length:Int)≤W.length):=by omega
  have hcl:u.cells.length=4:=rfl;have hcz:cellsO (some u)=u.cells:=rfl;have h160:=fun X w=>s160 (O:=O++X) (b:=b) (w:=w) (c:=c) ((Pre.app O X).row hR) (by omega) (fun v hv=>⟨(hok v hv).f.le (by simp),(hok v hv).m.le (by simp)⟩) (n:=u.super)
  have hcz2:=v7 (gj W u.super);have hcu:u.cells=[.str u.name,.str u.super,.slice u.fa u.fields.length u.fc,.slice u.ma u.meths.length u.mc]:=rfl;have hb1:b≤O.length+G.length:=by omega
  by_cases hA:A=[]
  ·subst hA;obtain ⟨G',w',r1,ih⟩:=l112 (c:=c) hR hl hok hb j (gj W u.super) [u] (G++[.cells 4 u.cells]) w (by simp only [f7,bf] at hj ⊢; omega) hw;refine ⟨G',w',r1,fun k=>?_⟩;have ih:=ih k;have e:[u]++goL W j (gj W u.super)=[]++goL W (j+1) (some u):=rfl;rw [e] at ih;rw [cg,← ih];generalize ACode.loop code112L0=L;simp only [accV,accR,if_true,co,List.cons_ne_self,if_false,f7,aq,ba,ci,jo,hcz,reduceCtorEq];simp only [bf] at hle;generalize cellsO (gj W u.super)=z at h160 hcz2 ⊢;simp (disch:=omega) [gz,gs,code112L0,h160,hle,hcu,hcz2,du,dp,iw,gv,nltT,nltF,iltT,ileT,nleT,bo]
  ·have hA0:A.length≠0:=fun e=>hA (bq e)
   obtain ⟨G',w',r1,ih⟩:=l112 (c:=c) hR hl hok hb j (gj W u.super) (A++[u]) (G++[.dead,.cells 4 u.cells]) (min w (O.length+G.length)) (by simp only [aq,f7]; omega) (by omega);refine ⟨G',w',r1,fun k=>?_⟩;have ih:=ih k;have e:A++[u]++goL W j (gj W u.super)=A++goL W (j+1) (some u):=by rw [ba]; rfl
   rw [e] at ih;have hC:(A.flatMap UnitU.cells).length=A.length*4:=lx UnitU.cells 4 (fun _=>rfl) A;have hT:(A.flatMap UnitU.cells).take (A.length*4)=A.flatMap UnitU.cells:=ff (by omega);have hA2:A++[u]≠[]:=by simp
   have z1:(A.length+1)*80≤140737488355328:=by omega
   have z2:A.length≤9223372036854775806:=by omega
   rw [cg,← ih];generalize ACode.loop code112L0=L;simp only [accV,accR,hA,hA2,if_false,f7,aq,ba,jp,ci,jo,co,hcz,bl,bj,az,bf];generalize A.flatMap UnitU.cells=C at hC hT ⊢;generalize cellsO (gj W u.super)=z at h160 hcz2 ⊢;simp (disch:=omega) [gz,gs,code112L0,h160,hle,hcu,hcz2,hC,hT,hA0,hb1,z1,z2,du,dp,iw,gv,nltT,nltF,iltT,ileT,nleT,bo]
end
theorem xp (W:List UnitU):∀ (j:Nat) (u:Option UnitU),(goL W j u).length≤j
 | 0,_=>ai _
 | _+1,none=>by simp [goL]
 | j+1,some v=>by have:=xp W j (gj W v.super);simp only [goL,az]; omega
theorem goL_mem {W:List UnitU}:∀ {j:Nat} {u:Option UnitU},(∀ v,u=some v→v ∈ W)→∀ v ∈ goL W j u,v ∈ W
 | 0,_,_,v,hv=>by simp [goL] at hv
 | _+1,none,_,v,hv=>by simp [goL] at hv
 | j+1,some x,h,v,hv=>by
  simp only [goL,br] at hv;rcases hv with rfl | hv
  ·exact h _ rfl
  ·exact goL_mem (fun y hy=>(nf hy).1) v hv
theorem lineU_mem {W:List UnitU} {k:Nat} {n:Str} {v:UnitU} (h:v ∈ jc W k n):v ∈ W:=goL_mem (fun _ hy=>(nf hy).1) v h
theorem s112 {W:List UnitU} {a:Option (Nat × Nat)} {c:Option Nat} (hR:Row O 4 UnitU.cells W a) (hl:W.length≤200) (hok:∀ u ∈ W,u.low O.length) (hb:b≤O.length) {n:Str} :
  xCall T 112 [.slice a W.length c,.str n] ⟨O,b,w⟩=some (rowV O.length (jc W (W.length+1) n),⟨rowO O (jc W (W.length+1) n),b,w⟩):=by
 have h160:=fun w=>s160 (b:=b) (w:=w) (c:=c) hR (by omega) hok (n:=n)
 obtain ⟨G',w',r1,hk⟩:=l112 (b:=b) (c:=c) hR hl hok hb (W.length+1) (gj W n) [] [] O.length (by simp) (ai _);have hz:=v7 (gj W n);have hlen:=xp W (W.length+1) (gj W n);have hmem:∀ v ∈ jc W (W.length+1) n,v.low O.length:=fun v hv=>hok v (lineU_mem hv)
 unfold jc at hmem ⊢;simp only [bj,co,bf,iz,accV,accR,if_true] at hk;generalize gj W n=u at *;generalize goL W (W.length+1) u=L at *;by_cases hL:L=[]
 ·subst hL;simp only [if_true,co] at hk;simp (disch:=omega) [-getElem?_pos,-getElem?_neg,gz,gs,au t112,code112,h160,hz,hk,rowV,rowO];intro h; omega
 ·simp only [hL,if_false] at hk;have hf:=fun w0=>row_fin (b:=b) (G:=G') (w0:=w0) hL (by omega) hmem r1
  simp (disch:=omega) [-getElem?_pos,-getElem?_neg,-dy,gz,gs,au t112,code112,h160,hz,hk,hf,hL,rowV,rowO]
end Go.Abs.Zh

namespace Go.Abs.Zh
open Go.Abs.Zd
variable {os O H:List AObj} {b w:Nat}
theorem row_rowO {O:List AObj} {L:List UnitU}:Row (rowO O L) 4 UnitU.cells L (if L=[] then none else some (O.length,0)):=by
 by_cases h:L=[]
 ·subst h; exact ⟨fun h=>absurd rfl h⟩
 ·simp only [rowO,h,if_false];exact Row.mk0 (fun _=>rfl) (by rw [dp]; rfl)
theorem xm (n:Nat) (L:List UnitU):rowV n L = .slice (if L=[] then none else some (n,0)) L.length (if L=[] then some 0 else none):=by unfold rowV;split <;> simp_all
theorem rowO_pre (O:List AObj) (L:List UnitU):Pre O (rowO O L):=by
 unfold rowO;split
 ·exact Pre.refl _
 ·exact Pre.app _ _
theorem jx {α:Type} {L:List α} {i:Nat} {x:α} (h:L[i]? = some x):L.drop i=x :: L.drop (i+1):=by have:=aj h;rw [ah this] at h;rw [ed this,dg h]
def fieldAt (L:List FieldU) (n d:Str):Option FieldU:=L.find? fun x=>decide (x.name=n) && decide (x.desc=d)
def methAt (L:List MethU) (n d:Str):Option MethU:=L.find? fun x=>decide (x.name=n) && decide (x.desc=d)
end Go.Abs.Zh

namespace Go.Abs.Zh
open Go.Abs.Zd
variable {os O H:List AObj} {b w:Nat}
section
attribute [-simp] getElem?_pos getElem?_neg
theorem l157a {W:List UnitU} {a:Option (Nat × Nat)} {c:Option Nat} {L:List Str} {aa:Option (Nat × Nat)} {cc:Option Nat} {x4 x5:List AVal} (hR:Row H 4 UnitU.cells W a) (hl:W.length≤9223372036854775807) (hok:∀ u ∈ W,u.low H.length) (hA:Row H 1 dj L aa) (hL:L.length≤9223372036854775807) (ht:∀ t ∈ L,t.length≤9223372036854775807) :
  ∀ (j i:Nat) (w:Nat),i+j=L.length→∀ (k:AExit→St→Option (AVal × Heap)),
  xK T (.loop code157L3) ⟨[(0,.val (.slice a W.length c)),(4,.var x4),(5,.var x5),(41,.val (.slice aa L.length cc)),(42,.val (.int .i64 L.length)),(43,.val (.int .i64 i))],⟨H,b,w⟩⟩ (k:=⟨k⟩) =
   if (L.drop i).all (thereU W) then k (.exit 0) ⟨[(0,.val (.slice a W.length c)),(4,.var x4),(5,.var x5)],⟨H,b,w⟩⟩ else k .ret ⟨[(6,.val (.bool false))],⟨H,b,w⟩⟩
 | 0,i,w,hi,k=>by rw [cg,b0 (by omega)];simp (disch:=omega) [code157L3,iltF]
 | j+1,i,w,hi,k=>by
  obtain ⟨t,hx⟩:∃ t,L[i]? = some t:=⟨_,ah (by omega)⟩;obtain ⟨p,o,cs,rfl,hp,hpl,hcs,hv⟩:=j7 hA hx
  have hg:cs[o+i]? = some (.str t):=by
   have:(List.take 1 (List.drop (o+i*1) cs))[0]? = some (.str t):=by rw [hv]; rfl
   simpa using this
  have h159:=fun w=>s159 (b:=b) (w:=w) (c:=c) hR hl hok (ht t (bz hx))
  have ih:=l157a (c:=c) (cc:=cc) (x4:=x4) (x5:=x5) hR hl hok hA hL ht j (i+1) w (by omega) k;have e2:((i+1:Nat):Int)=(i:Int)+1:=by omega
  rw [e2] at ih;rw [cg,jx hx];simp only [dv];generalize ACode.loop code157L3=L' at ih ⊢;rcases bc (thereU W t) with c1 | c1
  ·simp (disch:=omega) [-List.all_eq_true,gz,gs,code157L3,nltT,nltF,iltT,ileT,nleT,de,h159,hp,hg,c1,ih]
  ·simp (disch:=omega) [-List.all_eq_true,gz,gs,code157L3,nltT,nltF,iltT,ileT,nleT,de,h159,hp,hg,c1]
end
def trapU (W:List UnitU) (t:TrapU):Bool:=decide (t.cls=[]) || (gj W t.cls).isSome
section
attribute [-simp] getElem?_pos getElem?_neg
theorem l157t {W:List UnitU} {a:Option (Nat × Nat)} {c:Option Nat} {L:List TrapU} {aa:Option (Nat × Nat)} {cc:Option Nat} {x4 x5:List AVal} (hR:Row H 4 UnitU.cells W a) (hl:W.length≤9223372036854775807) (hok:∀ u ∈ W,u.low H.length) (hA:Row H 4 TrapU.cells L aa) (hL:L.length≤9223372036854775807) :
  ∀ (j i:Nat) (w:Nat),i+j=L.length→∀ (k:AExit→St→Option (AVal × Heap)),
  xK T (.loop code157L2) ⟨[(0,.val (.slice a W.length c)),(4,.var x4),(5,.var x5),(53,.val (.slice aa L.length cc)),(54,.val (.int .i64 L.length)),(55,.val (.int .i64 i))],⟨H,b,w⟩⟩ (k:=⟨k⟩) =
   if (L.drop i).all (trapU W) then k (.exit 2) ⟨[(0,.val (.slice a W.length c)),(4,.var x4),(5,.var x5)],⟨H,b,w⟩⟩ else k .ret ⟨[(6,.val (.bool false))],⟨H,b,w⟩⟩
 | 0,i,w,hi,k=>by rw [cg,b0 (by omega)];simp (disch:=omega) [code157L2,iltF]
 | j+1,i,w,hi,k=>by
  obtain ⟨t,hx⟩:∃ t,L[i]? = some t:=⟨_,ah (by omega)⟩;obtain ⟨p,o,cs,rfl,hp,hpl,hcs,hv⟩:=j7 hA hx;have h160:=fun w=>s160 (b:=b) (w:=w) (c:=c) hR hl hok (n:=t.cls)
  have hz:=v7 (gj W t.cls);have ih:=l157t (c:=c) (cc:=cc) (x4:=x4) (x5:=x5) hR hl hok hA hL j (i+1) w (by omega) k;have e2:((i+1:Nat):Int)=(i:Int)+1:=by omega
  rw [e2] at ih;rw [cg,jx hx];simp only [dv];generalize ACode.loop code157L2=L' at ih ⊢;unfold TrapU.cells at hv;have ho:trapU W t=(decide (t.cls=[]) || (gj W t.cls).isSome):=rfl;generalize gj W t.cls=q at h160 hz ho;by_cases c0:t.cls=[]
  ·have ho:trapU W t=true:=by rw [ho,c0]; rfl
   rw [c0] at h160;simp (disch:=omega) [-List.all_eq_true,gz,gs,code157L2,nltT,nltF,iltT,ileT,nleT,de,h160,hz,hp,hv,c0,ho,ih]
  ·cases q with
   | none =>
    have ho:trapU W t=false:=by rw [ho]; simp [c0]
    simp (disch:=omega) [-List.all_eq_true,gz,gs,code157L2,nltT,nltF,iltT,ileT,nleT,de,h160,hz,hp,hv,c0,ho]
   | some q =>
    have ho:trapU W t=true:=by rw [ho]; simp
    simp (disch:=omega) [-List.all_eq_true,gz,gs,code157L2,nltT,nltF,iltT,ileT,nleT,de,h160,hz,hp,hv,c0,ho,ih]
end
def oddM (m x:MethU):Bool:=decide (x.name=m.name) && (decide (x.desc=m.desc) && !decide (x.st=m.st))
section
attribute [-simp] getElem?_pos getElem?_neg
theorem l157m {L:List MethU} {aa:Option (Nat × Nat)} {cc:Option Nat} {m:MethU} {x1 x2 x3:AVal} (hA:Row H 8 MethU.cells L aa) (hL:L.length≤9223372036854775807) :
  ∀ (j i:Nat) (w:Nat),i+j=L.length→∀ (k:AExit→St→Option (AVal × Heap)),
  xK T (.loop code157L0) ⟨[(5,.var m.cells),(77,.val x1),(78,.val x2),(79,.val x3),(84,.val (.slice aa L.length cc)),(85,.val (.int .i64 L.length)),(86,.val (.int .i64 i))],⟨H,b,w⟩⟩ (k:=⟨k⟩) =
   if (L.drop i).all (fun x=>!oddM m x) then k (.exit 6) ⟨[(5,.var m.cells),(77,.val x1),(78,.val x2),(79,.val x3)],⟨H,b,w⟩⟩ else k .ret ⟨[(6,.val (.bool false))],⟨H,b,w⟩⟩
 | 0,i,w,hi,k=>by rw [cg,b0 (by omega)];simp (disch:=omega) [code157L0,iltF]
 | j+1,i,w,hi,k=>by
  obtain ⟨x,hx⟩:∃ x,L[i]? = some x:=⟨_,ah (by omega)⟩;obtain ⟨p,o,cs,rfl,hp,hpl,hcs,hv⟩:=j7 hA hx;have ih:=l157m (cc:=cc) (m:=m) (x1:=x1) (x2:=x2) (x3:=x3) hA hL j (i+1) w (by omega) k;have e2:((i+1:Nat):Int)=(i:Int)+1:=by omega
  rw [e2] at ih;have hcm:m.cells=[.bool m.st,.str m.name,.str m.desc,.int .i64 m.stack,.int .i64 m.locals,.slice m.ca m.code.length m.cc,.slice m.ta m.traps.length m.tc,.slice m.xa m.maps.length m.xc]:=rfl;have hcx:x.cells=[.bool x.st,.str x.name,.str x.desc,.int .i64 x.stack,.int .i64 x.locals,.slice x.ca x.code.length x.cc,.slice x.ta x.traps.length x.tc,.slice x.xa x.maps.length x.xc]:=rfl;rw [hcm] at ih ⊢;rw [hcx] at hv;rw [cg,jx hx];simp only [dv];generalize ACode.loop code157L0=L' at ih ⊢;have ho:oddM m x=(decide (x.name=m.name) && (decide (x.desc=m.desc) && !decide (x.st=m.st))):=rfl;by_cases c1:x.name=m.name
  ·by_cases c2:x.desc=m.desc
   ·by_cases c3:x.st=m.st
    ·have ho:oddM m x=false:=by rw [ho,c1,c2,c3]; simp
     simp (disch:=omega) [-List.all_eq_true,gz,gs,code157L0,nltT,nltF,iltT,ileT,nleT,de,hp,hv,c1,c2,c3,ho,ih]
    ·have ho:oddM m x=true:=by rw [ho]; simp [c1,c2,c3]
     simp (disch:=omega) [-List.all_eq_true,gz,gs,code157L0,nltT,nltF,iltT,ileT,nleT,de,hp,hv,c1,c2,c3,ho]
   ·have ho:oddM m x=false:=by rw [ho]; simp [c1,c2]
    simp (disch:=omega) [-List.all_eq_true,gz,gs,code157L0,nltT,nltF,iltT,ileT,nleT,de,hp,hv,c1,c2,ho,ih]
  ·have ho:oddM m x=false:=by rw [ho]; simp [c1]
   simp (disch:=omega) [-List.all_eq_true,gz,gs,code157L0,nltT,nltF,iltT,ileT,nleT,de,hp,hv,c1,ho,ih]
end
def evenM (m:MethU) (v:UnitU):Bool:=v.meths.all fun x=>!oddM m x
section
attribute [-simp] getElem?_pos getElem?_neg
theorem l157l {L:List UnitU} {aa:Option (Nat × Nat)} {cc:Option Nat} {m:MethU} (hA:Row H 4 UnitU.cells L aa) (hL:L.length≤9223372036854775807) (hm:∀ u ∈ L,Row H 8 MethU.cells u.meths u.ma∧u.meths.length≤9223372036854775807) :
  ∀ (j i:Nat) (w:Nat),i+j=L.length→∀ (k:AExit→St→Option (AVal × Heap)),
  xK T (.loop code157L1) ⟨[(5,.var m.cells),(77,.val (.slice aa L.length cc)),(78,.val (.int .i64 L.length)),(79,.val (.int .i64 i))],⟨H,b,w⟩⟩ (k:=⟨k⟩) =
   if (L.drop i).all (evenM m) then k (.exit 4) ⟨[],⟨H,b,w⟩⟩ else k .ret ⟨[(6,.val (.bool false))],⟨H,b,w⟩⟩
 | 0,i,w,hi,k=>by rw [cg,b0 (by omega)];simp (disch:=omega) [code157L1,iltF]
 | j+1,i,w,hi,k=>by
  obtain ⟨u,hx⟩:∃ u,L[i]? = some u:=⟨_,ah (by omega)⟩;obtain ⟨p,o,cs,rfl,hp,hpl,hcs,hv⟩:=j7 hA hx;obtain ⟨h1,h2⟩:=hm u (bz hx);have hin:=fun (x1 x2 x3:AVal) w k=>l157m (b:=b) (cc:=u.mc) (m:=m) (x1:=x1) (x2:=x2) (x3:=x3) h1 h2 u.meths.length 0 w (by omega) k
  simp only [ce,eo] at hin;have ih:=l157l (cc:=cc) (m:=m) hA hL hm j (i+1) w (by omega) k;have e2:((i+1:Nat):Int)=(i:Int)+1:=by omega
  rw [e2] at ih;have hcu:u.cells=[.str u.name,.str u.super,.slice u.fa u.fields.length u.fc,.slice u.ma u.meths.length u.mc]:=rfl;rw [hcu] at hv;rw [cg,jx hx];simp only [dv];generalize ACode.loop code157L1=L' at ih ⊢;have ho:evenM m u=u.meths.all fun x=>!oddM m x:=rfl
  rw [← ho] at hin;generalize m.cells=mc at ih hin ⊢;rcases bc (evenM m u) with c1 | c1
  ·rw [c1] at hin;simp only [if_true] at hin;simp (disch:=omega) [-List.all_eq_true,gz,gs,code157L1,nltT,nltF,iltT,ileT,nleT,de,hp,hv,c1,hin,ih]
  ·rw [c1] at hin;simp only [am,if_false] at hin;simp (disch:=omega) [-List.all_eq_true,gz,gs,code157L1,nltT,nltF,iltT,ileT,nleT,de,hp,hv,c1,hin]
end
def methodU (W:List UnitU) (u:UnitU) (m:MethU):Bool:=match methL m.desc with
 | some (A,r)=>isName m.name && (thereU W r && (A.all (thereU W) && (m.traps.all (trapU W) && (jc W (W.length+1) u.name).all (evenM m))))
 | none=>false
structure Units (O:List AObj) (W:List UnitU) (a:Option (Nat × Nat)):Prop where
 r:Row O 4 UnitU.cells W a
 n:W.length≤200
 ok:∀ u ∈ W,u.ok O
theorem Units.pre {O O':List AObj} {W:List UnitU} {a:Option (Nat × Nat)} (h:Units O W a) (hp:Pre O O'):Units O' W a:=⟨hp.row h.r,h.n,fun u hu=>(h.ok u hu).pre hp⟩
theorem Units.low {O:List AObj} {W:List UnitU} {a:Option (Nat × Nat)} (h:Units O W a):∀ u ∈ W,u.low O.length:=fun u hu=>(h.ok u hu).low
theorem Units.len {O:List AObj} {W:List UnitU} {a:Option (Nat × Nat)} (h:Units O W a):W.length≤9223372036854775807:=dq h.n (by decide)
theorem methO_pre (O:List AObj) (q:Option (List Str × Str)):Pre O (methO O q):=by
 unfold methO;split
 ·exact Pre.app _ _
 ·exact Pre.refl _
def argA (n:Nat):List Str→Option (Nat × Nat)
 | []=>none
 | _ :: _=>some (n,0)
def argC:List Str→Option Nat
 | []=>some 0
 | _ :: _=>none
section
attribute [-simp] getElem?_pos getElem?_neg
attribute [local simp] gz gs
theorem s157 {W:List UnitU} {a:Option (Nat × Nat)} {c:Option Nat} (hW:Units O W a) {u:UnitU} {m:MethU} (hm:m.ok O) (hb:b≤O.length) :
  xCall T 157 [.slice a W.length c,.agg u.cells,.agg m.cells] ⟨O,b,w⟩=some (.bool (methodU W u m),⟨O,b,w⟩):=by
 have hmd:m.desc.length≤9223372036854775807:=hm.desc;have hmn:m.name.length≤9223372036854775807:=hm.name;have h37:=fun w=>s37 (os:=O) (b:=b) (w:=w) (s:=m.desc) hmd hb
 have hcm:m.cells=[.bool m.st,.str m.name,.str m.desc,.int .i64 m.stack,.int .i64 m.locals,.slice m.ca m.code.length m.cc,.slice m.ta m.traps.length m.tc,.slice m.xa m.maps.length m.xc]:=rfl;have hcu:u.cells=[.str u.name,.str u.super,.slice u.fa u.fields.length u.fc,.slice u.ma u.meths.length u.mc]:=rfl;unfold methodU;cases hq:methL m.desc with
 | none =>
  rw [hq] at h37;simp only [methV,methO] at h37;have h158:=fun w=>s158 (O:=O) (b:=b) (w:=w) hmn
  cases c0:isName m.name with
  | false=>simp (disch:=omega) [-List.all_eq_true,au t157,code157,h37,h158,nltT,nltF,iltT,ileT,nleT,hcm,hcu,c0]
  | true=>simp (disch:=omega) [-List.all_eq_true,au t157,code157,h37,h158,nltT,nltF,iltT,ileT,nleT,hcm,hcu,c0]
 | some q =>
  obtain ⟨A,r⟩:=q;obtain ⟨q1,q2,q3⟩:=methL_len hq;have hp1:=methO_pre O (methL m.desc);rw [hq] at h37 hp1;have hW1:=hW.pre hp1;have hm1:=hm.pre hp1
  have hrow:Row (methO O (some (A,r))) 1 dj A (argA O.length A):=by
   cases A with
   | nil=>exact ⟨fun h=>absurd rfl h⟩
   | cons x A=>exact Row.mk0 (fun _=>rfl) (by simp only [methO]; rw [dp,uw]; rfl)
  have hv:methV O.length (some (A,r)) = .tuple [.slice (argA O.length A) A.length (argC A),.str r,.int .i64 0]:=by cases A <;> rfl
  rw [hv] at h37;have hb1:b≤(methO O (some (A,r))).length:=dq hb hp1.len;have hlenO:=hp1.len;clear hv;generalize argA O.length A=aa at h37 hrow;generalize argC A=cc at h37;generalize methO O (some (A,r))=H at h37 hp1 hW1 hm1 hrow hb1 hlenO;have h158:=fun w=>s158 (O:=H) (b:=b) (w:=w) hmn
  have h159:=fun w=>s159 (b:=b) (w:=w) (c:=c) hW1.r hW1.len hW1.low (t:=r) (by omega)
  have hk1:=fun x4 x5 w k=>l157a (b:=b) (c:=c) (cc:=cc) (x4:=x4) (x5:=x5) hW1.r hW1.len hW1.low hrow (by omega) (fun t ht=>by have:=q3 t ht; omega) A.length 0 w (by omega) k
  have hk2:=fun x4 x5 w k=>l157t (b:=b) (c:=c) (cc:=m.tc) (x4:=x4) (x5:=x5) hW1.r hW1.len hW1.low hm1.t hm1.tn m.traps.length 0 w (by omega) k
  have h112:=fun w=>s112 (b:=b) (w:=w) (c:=c) hW1.r hW1.n hW1.low hb1 (n:=u.name)
  rw [xm] at h112;have hlen:(jc W (W.length+1) u.name).length≤W.length+1:=xp _ _ _;have hWn:=hW.n
  have hmem:∀ v ∈ jc W (W.length+1) u.name,Row (rowO H (jc W (W.length+1) u.name)) 8 MethU.cells v.meths v.ma∧v.meths.length≤9223372036854775807:=fun v hv=>by have:=hW1.ok v (lineU_mem hv);exact ⟨(rowO_pre _ _).row this.m,this.mn⟩
  have hk3:=fun cc w k=>l157l (b:=b) (cc:=cc) (m:=m) row_rowO (by omega) hmem (jc W (W.length+1) u.name).length 0 w (by omega) k
  simp only [ce,eo] at hk1 hk2 hk3;generalize jc W (W.length+1) u.name=L at *;generalize (if L=[] then none else some (H.length,0))=la at h112 hk3;generalize (if L=[] then some 0 else none:Option Nat)=lc at h112;generalize rowO H L=H2 at h112 hk3;rw [hcm,hcu] at *;simp only;cases c0:isName m.name with
  | false=>simp (disch:=omega) [-List.all_eq_true,au t157,code157,h37,h158,nltT,nltF,iltT,ileT,nleT,c0]
  | true =>
   cases c1:thereU W r with
   | false=>simp (disch:=omega) [-List.all_eq_true,au t157,code157,h37,h158,nltT,nltF,iltT,ileT,nleT,h159,c0,c1]
   | true =>
    cases c2:A.all (thereU W) with
    | false =>
     simp only [c2,am,if_false] at hk1;simp (disch:=omega) [-List.all_eq_true,au t157,code157,h37,h158,nltT,nltF,iltT,ileT,nleT,h159,hk1,c0,c1,c2]
    | true =>
     simp only [c2,if_true] at hk1;cases c3:m.traps.all (trapU W) with
     | false =>
      simp only [c3,am,if_false] at hk2;simp (disch:=omega) [-List.all_eq_true,au t157,code157,h37,h158,nltT,nltF,iltT,ileT,nleT,h159,hk1,hk2,c0,c1,c2,c3]
     | true =>
      simp only [c3,if_true] at hk2;cases c4:L.all (evenM m) with
      | false =>
       simp only [c4,am,if_false] at hk3;simp (disch:=omega) [-List.all_eq_true,au t157,code157,h37,h158,nltT,nltF,iltT,ileT,nleT,h159,hk1,hk2,hk3,h112,c0,c1,c2,c3,c4]
      | true =>
       simp only [c4,if_true] at hk3;simp (disch:=omega) [-List.all_eq_true,au t157,code157,h37,h158,nltT,nltF,iltT,ileT,nleT,h159,hk1,hk2,hk3,h112,c0,c1,c2,c3,c4]
end
end Go.Abs.Zh

namespace Go.Abs.Zh
open Go.Abs.Zd
variable {os O H:List AObj} {b w:Nat}
theorem row_take {α:Type} {e:Nat} {f:α→List AVal} {L:List α} {a:Option (Nat × Nat)} (h:Row H e f L a) (i:Nat):Row H e f (L.take i) a :=
 ⟨fun hne=>by obtain ⟨p,o,cs,h1,h2,h3⟩:=h.at' (fun e=>hne (by rw [e,List.take_nil]));refine ⟨p,o,cs,h1,h2,fun j x hx=>h3 j x ?_⟩;have hj:=aj hx;rw [mt] at hj;rw [et (by omega)] at hx;exact hx⟩
section
attribute [-simp] getElem?_pos getElem?_neg
theorem l106f {L:List FieldU} {a:Option (Nat × Nat)} {c:Option Nat} {f:FieldU} {x0 x50 x51 x52:AVal} {x3:List AVal} (hR:Row H 3 FieldU.cells L a) (hL:L.length≤9223372036854775807):∀ (j i:Nat) (w:Nat),i+j=L.length→∀ (k:AExit→St→Option (AVal × Heap)),
  xK T (.loop code106L2) ⟨[(0,.val x0),(3,.var x3),(7,.var f.cells),(50,.val x50),(51,.val x51),(52,.val x52),(77,.val (.slice a L.length c)),(78,.val (.int .i64 L.length)),(79,.val (.int .i64 i))],⟨H,b,w⟩⟩ (k:=⟨k⟩) =
   if (L.drop i).all (fun g=>!decide (f.name=g.name)) then k (.exit 2) ⟨[(0,.val x0),(3,.var x3),(50,.val x50),(51,.val x51),(52,.val x52)],⟨H,b,w⟩⟩ else k .ret ⟨[(4,.val (.bool false))],⟨H,b,w⟩⟩
 | 0,i,w,hi,k=>by rw [cg,b0 (by omega)];simp (disch:=omega) [code106L2,iltF]
 | j+1,i,w,hi,k=>by
  obtain ⟨g,hx⟩:∃ g,L[i]? = some g:=⟨_,ah (by omega)⟩;obtain ⟨p,o,cs,rfl,hp,hpl,hcs,hv⟩:=j7 hR hx;have ih:=l106f (c:=c) (f:=f) (x0:=x0) (x50:=x50) (x51:=x51) (x52:=x52) (x3:=x3) hR hL j (i+1) w (by omega) k;have e2:((i+1:Nat):Int)=(i:Int)+1:=by omega
  rw [e2] at ih;unfold FieldU.cells at hv ih ⊢;rw [cg,jx hx];simp only [dv];generalize ACode.loop code106L2=L' at ih ⊢;by_cases c1:f.name=g.name
  ·simp only [c1,decide_true,Bool.not_true,d8];simp (disch:=omega) [-List.all_eq_true,gz,gs,code106L2,nltT,nltF,iltT,ileT,nleT,de,hp,hv,c1]
  ·simp only [decide_eq_false c1,nj,dh];simp (disch:=omega) [-List.all_eq_true,gz,gs,code106L2,nltT,nltF,iltT,ileT,nleT,de,hp,hv,c1,ih]
theorem l106m {L:List MethU} {a:Option (Nat × Nat)} {c:Option Nat} {m:MethU} {x0 x91 x92 x93:AVal} {x3:List AVal} (hR:Row H 8 MethU.cells L a) (hL:L.length≤9223372036854775807):∀ (j i:Nat) (w:Nat),i+j=L.length→∀ (k:AExit→St→Option (AVal × Heap)),
  xK T (.loop code106L0) ⟨[(0,.val x0),(3,.var x3),(11,.var m.cells),(91,.val x91),(92,.val x92),(93,.val x93),(106,.val (.slice a L.length c)),(107,.val (.int .i64 L.length)),(108,.val (.int .i64 i))],⟨H,b,w⟩⟩ (k:=⟨k⟩) =
   if (L.drop i).all (fun g=>!(decide (m.name=g.name) && decide (m.desc=g.desc))) then k (.exit 6) ⟨[(0,.val x0),(3,.var x3),(91,.val x91),(92,.val x92),(93,.val x93)],⟨H,b,w⟩⟩ else k .ret ⟨[(4,.val (.bool false))],⟨H,b,w⟩⟩
 | 0,i,w,hi,k=>by rw [cg,b0 (by omega)];simp (disch:=omega) [code106L0,iltF]
 | j+1,i,w,hi,k=>by
  obtain ⟨g,hx⟩:∃ g,L[i]? = some g:=⟨_,ah (by omega)⟩;obtain ⟨p,o,cs,rfl,hp,hpl,hcs,hv⟩:=j7 hR hx;have ih:=l106m (c:=c) (m:=m) (x0:=x0) (x91:=x91) (x92:=x92) (x93:=x93) (x3:=x3) hR hL j (i+1) w (by omega) k;have e2:((i+1:Nat):Int)=(i:Int)+1:=by omega
  rw [e2] at ih;unfold MethU.cells at hv ih ⊢;rw [cg,jx hx];simp only [dv];generalize ACode.loop code106L0=L' at ih ⊢;by_cases c1:m.name=g.name
  ·by_cases c2:m.desc=g.desc
   ·simp only [c1,c2,decide_true,Bool.and_self,Bool.not_true,d8];simp (disch:=omega) [-List.all_eq_true,gz,gs,code106L0,nltT,nltF,iltT,ileT,nleT,de,hp,hv,c1,c2]
   ·simp only [decide_eq_false c2,Bool.and_false,nj,dh];rw [c1] at ih;simp (disch:=omega) [-List.all_eq_true,gz,gs,code106L0,nltT,nltF,iltT,ileT,nleT,de,hp,hv,c1,c2,ih]
  ·simp only [decide_eq_false c1,d8,nj,dh];simp (disch:=omega) [-List.all_eq_true,gz,gs,code106L0,nltT,nltF,iltT,ileT,nleT,de,hp,hv,c1,ih]
end
def fieldsU (W:List UnitU):List FieldU→List FieldU→Bool
 | _,[]=>true
 | A,f :: r=>isName f.name && (isTy f.desc && (thereU W f.desc && (A.all (fun g=>!decide (f.name=g.name)) && fieldsU W (A++[f]) r)))
def methsU (W:List UnitU) (u:UnitU):List MethU→List MethU→Bool
 | _,[]=>true
 | A,m :: r=>methodU W u m && (A.all (fun g=>!(decide (m.name=g.name) && decide (m.desc=g.desc))) && methsU W u (A++[m]) r)
theorem yl {n i:Nat} {c:Option Nat} (hi:i≤n) (hc:∀ k,c=some k→n≤k):bounds n c none (some (.int .i64 i)) none=some (0,i,c):=by
 unfold bounds upTo lowB;cases c with
 | none =>
  simp only [mw];rw [if_pos ⟨by omega,by omega⟩];simp
 | some k =>
  have:=hc k rfl;simp only [cq];rw [if_pos ⟨by omega,by omega⟩];simp
section
attribute [-simp] getElem?_pos getElem?_neg
theorem l106F {W:List UnitU} {a:Option (Nat × Nat)} {c:Option Nat} (hW:Units O W a) {u:UnitU} (hu:u.ok O) (hc:u.cap) (hb:b≤O.length):∀ (j i:Nat) (w:Nat),i+j=u.fields.length→∀ (k:AExit→St→Option (AVal × Heap)),
  xK T (.loop code106L3) ⟨[(0,.val (.slice a W.length c)),(3,.var u.cells),(50,.val (.slice u.fa u.fields.length u.fc)),(51,.val (.int .i64 u.fields.length)),(52,.val (.int .i64 i))],⟨O,b,w⟩⟩ (k:=⟨k⟩) =
   if fieldsU W (u.fields.take i) (u.fields.drop i) then k (.exit 0) ⟨[(0,.val (.slice a W.length c)),(3,.var u.cells)],⟨O,b,w⟩⟩ else k .ret ⟨[(4,.val (.bool false))],⟨O,b,w⟩⟩
 | 0,i,w,hi,k=>by rw [cg,b0 (by omega)];simp (disch:=omega) [code106L3,iltF,fieldsU]
 | j+1,i,w,hi,k=>by
  obtain ⟨f,hx⟩:∃ f,u.fields[i]? = some f:=⟨_,ah (by omega)⟩;obtain ⟨p,o,cs,ha,hp,hpl,hcs,hv⟩:=j7 hu.f hx;have hfn:u.fields.length≤9223372036854775807:=hu.fn;obtain ⟨hn1,hn2⟩:=hu.fok f (bz hx);have ih:=l106F (c:=c) hW hu hc hb j (i+1) w (by omega) k;have e2:((i+1:Nat):Int)=(i:Int)+1:=by omega
  rw [e2,pk hx] at ih;have h158:=fun w=>s158 (O:=O) (b:=b) (w:=w) (s:=f.name) hn1
  have h28:=fun w=>s28 (os:=O) (b:=b) (w:=w) (s:=f.desc) hn2
  have h159:=fun w=>s159 (b:=b) (w:=w) (c:=c) hW.r hW.len hW.low (t:=f.desc) hn2
  have hbd:=yl (n:=u.fields.length) (i:=i) (c:=u.fc) (by omega) hc.f;have hlt:(u.fields.take i).length=i:=by rw [mt]; omega
  have hin:=fun (x0 x50 x51 x52:AVal) x3 c w k=>l106f (b:=b) (c:=c) (f:=f) (x0:=x0) (x50:=x50) (x51:=x51) (x52:=x52) (x3:=x3) (row_take hu.f i) (by omega) i 0 w (by omega) k
  simp only [ce,eo,hlt] at hin;have hcu:u.cells=[.str u.name,.str u.super,.slice u.fa u.fields.length u.fc,.slice u.ma u.meths.length u.mc]:=rfl;rw [hcu] at ih ⊢;rw [ha] at hin ih ⊢;unfold FieldU.cells at hv hin;rw [cg,jx hx];simp only [fieldsU];generalize ACode.loop code106L3=L' at ih ⊢;rcases bc (isName f.name) with c1 | c1
  ·rcases bc (isTy f.desc) with c2 | c2
   ·rcases bc (thereU W f.desc) with c3 | c3
    ·rcases bc ((u.fields.take i).all fun g=>!decide (f.name=g.name)) with c4 | c4
     ·rw [c4] at hin;simp only [c1,c2,c3,c4,dh,if_true] at hin ⊢;simp (disch:=omega) [-List.all_eq_true,gz,gs,code106L3,nltT,nltF,iltT,ileT,nleT,de,-bounds,hbd,h158,h28,h159,hin,hp,hv,c1,c2,c3,ih]
     ·rw [c4] at hin;simp only [c1,c2,c3,c4,dh,d8,am,if_false] at hin ⊢;simp (disch:=omega) [-List.all_eq_true,gz,gs,code106L3,nltT,nltF,iltT,ileT,nleT,de,-bounds,hbd,h158,h28,h159,hin,hp,hv,c1,c2,c3]
    ·simp only [c1,c2,c3,dh,d8,am,if_false];simp (disch:=omega) [-List.all_eq_true,gz,gs,code106L3,nltT,nltF,iltT,ileT,nleT,de,h158,h28,h159,hp,hv,c1,c2,c3]
   ·simp only [c1,c2,dh,d8,am,if_false];simp (disch:=omega) [-List.all_eq_true,gz,gs,code106L3,nltT,nltF,iltT,ileT,nleT,de,h158,h28,hp,hv,c1,c2]
  ·simp only [c1,d8,am,if_false];simp (disch:=omega) [-List.all_eq_true,gz,gs,code106L3,nltT,nltF,iltT,ileT,nleT,de,h158,hp,hv,c1]
end
section
attribute [-simp] getElem?_pos getElem?_neg List.all_eq_true
attribute [local simp] gz gs nltT nltF iltT iltF ileT nleT de
theorem l106M {W:List UnitU} {a:Option (Nat × Nat)} {c:Option Nat} (hW:Units O W a) {u:UnitU} (hu:u.ok O) (hc:u.cap) (hb:b≤O.length):∀ (j i:Nat) (w:Nat),i+j=u.meths.length→∀ (k:AExit→St→Option (AVal × Heap)),
  xK T (.loop code106L1) ⟨[(0,.val (.slice a W.length c)),(3,.var u.cells),(91,.val (.slice u.ma u.meths.length u.mc)),(92,.val (.int .i64 u.meths.length)),(93,.val (.int .i64 i))],⟨O,b,w⟩⟩ (k:=⟨k⟩) =
   if methsU W u (u.meths.take i) (u.meths.drop i) then k (.exit 4) ⟨[],⟨O,b,w⟩⟩ else k .ret ⟨[(4,.val (.bool false))],⟨O,b,w⟩⟩
 | 0,i,w,hi,k=>by rw [cg,b0 (by omega)];simp (disch:=omega) [code106L1,methsU]
 | j+1,i,w,hi,k=>by
  obtain ⟨m,hx⟩:∃ m,u.meths[i]? = some m:=⟨_,ah (by omega)⟩;obtain ⟨p,o,cs,ha,hp,hpl,hcs,hv⟩:=j7 hu.m hx;have hfn:u.meths.length≤9223372036854775807:=hu.mn;have ih:=l106M (c:=c) hW hu hc hb j (i+1) w (by omega) k;have e2:((i+1:Nat):Int)=(i:Int)+1:=by omega
  rw [e2,pk hx] at ih;have h157:=fun w=>s157 (b:=b) (w:=w) (c:=c) hW (u:=u) (hu.mok m (bz hx)) hb
  have hbd:=yl (n:=u.meths.length) (i:=i) (c:=u.mc) (by omega) hc.m;have hlt:(u.meths.take i).length=i:=by rw [mt]; omega
  have hin:=fun (x0 x91 x92 x93:AVal) x3 c w k=>l106m (b:=b) (c:=c) (m:=m) (x0:=x0) (x91:=x91) (x92:=x92) (x93:=x93) (x3:=x3) (row_take hu.m i) (by omega) i 0 w (by omega) k
  simp only [ce,eo,hlt] at hin;have hcu:u.cells=[.str u.name,.str u.super,.slice u.fa u.fields.length u.fc,.slice u.ma u.meths.length u.mc]:=rfl;have hcl:m.cells.length=8:=rfl;rw [hcu] at ih h157 ⊢;rw [ha] at hin ih h157 ⊢;rw [cg,jx hx];simp only [methsU];generalize ACode.loop code106L1=L' at ih ⊢;unfold MethU.cells at hv hin h157;rcases bc (methodU W u m) with c1 | c1
  ·rcases bc ((u.meths.take i).all fun g=>!(decide (m.name=g.name) && decide (m.desc=g.desc))) with c4 | c4
   ·rw [c4] at hin;simp only [c1,c4,dh,if_true] at hin ⊢;simp (disch:=omega) [code106L1,-bounds,hbd,h157,hin,hp,hv,c1,ih]
   ·rw [c4] at hin;simp only [c1,c4,dh,d8,am,if_false] at hin ⊢;simp (disch:=omega) [code106L1,-bounds,hbd,h157,hin,hp,hv,c1]
  ·simp only [c1,d8,am,if_false];simp (disch:=omega) [code106L1,-bounds,hbd,h157,hp,hv,c1]
end
def lastName (l:List UnitU):Str:=((l.getLast?).map UnitU.name).getD []
def unitU (W:List UnitU) (u:UnitU):Bool :=
 ip u.name && (!decide (u.super=sysT) && (decide (2≤(jc W (W.length+1) u.name).length) && (decide ((jc W (W.length+1) u.name).length≤W.length) && (decide (lastName (jc W (W.length+1) u.name)=objectT) && (fieldsU W [] u.fields && methsU W u [] u.meths)))))
end Go.Abs.Zh

namespace Go.Abs.Zh
open Go.Abs.Zd
variable {os O H:List AObj} {b w:Nat}
theorem getLast_at {L:List UnitU} {x:UnitU} (h:L[L.length - 1]? = some x):lastName L=x.name:=by unfold lastName;rw [List.getLast?_eq_getElem?,h]; rfl
section
attribute [-simp] getElem?_pos getElem?_neg List.all_eq_true
attribute [local simp] gz gs nltT nltF iltT iltF ileT nleT de
theorem s106 {W:List UnitU} {a:Option (Nat × Nat)} {c:Option Nat} (hW:Units O W a) {u:UnitU} (hu:u.ok O) (hc:u.cap) (hb:b≤O.length) :
  xCall T 106 [.slice a W.length c,.agg u.cells] ⟨O,b,w⟩=some (.bool (unitU W u),⟨O,b,w⟩):=by
 have h112:=fun w=>s112 (b:=b) (w:=w) (c:=c) hW.r hW.n hW.low hb (n:=u.name)
 have hun:u.name.length≤9223372036854775807:=hu.name;have h26:=fun O w=>s26 (os:=O) (b:=b) (w:=w) (s:=u.name) hun
 have hlen:(jc W (W.length+1) u.name).length≤W.length+1:=xp _ _ _;have hn:=hW.n;have hcu:u.cells=[.str u.name,.str u.super,.slice u.fa u.fields.length u.fc,.slice u.ma u.meths.length u.mc]:=rfl;unfold unitU sysT objectT;generalize hl:jc W (W.length+1) u.name=l at *;have hpre:=rowO_pre O l;have hb':b≤(rowO O l).length:=dq hb hpre.len;have hF:=fun w k=>l106F (b:=b) (c:=c) (hW.pre hpre) (hu.pre hpre) hc hb' u.fields.length 0 w (by omega) k
 have hM:=fun w k=>l106M (b:=b) (c:=c) (hW.pre hpre) (hu.pre hpre) hc hb' u.meths.length 0 w (by omega) k
 simp only [ce,List.take_zero,eo] at hF hM;rw [hcu] at hF hM ⊢;rcases bc (ip u.name) with c1 | c1
 ·by_cases c2:u.super=[115,121,115]
  ·simp only [c1,decide_eq_true c2,Bool.not_true,dh,d8];rw [xm] at h112;generalize (if l=[] then none else some (O.length,0))=aa at h112;generalize (if l=[] then some 0 else none)=cc at h112;generalize rowO O l=HH at h112;simp (disch:=omega) [au t106,code106,h112,h26,c1,c2]
  ·by_cases c3:2≤l.length
   ·have hne:l≠[]:=by rintro rfl; simp at c3
    obtain ⟨x,hx⟩:∃ x,l[l.length - 1]? = some x:=⟨_,ah (by omega)⟩;have hR:=row_rowO (O:=O) (L:=l);obtain ⟨p,o,cs,ha,hp,hpl,hcs,hv⟩:=j7 hR hx;rw [xm,ha] at h112;rw [getLast_at hx];have hsub:(l.length:Int) - 1=((l.length - 1:Nat):Int):=by omega
    have hcx:(cs.drop (o+(l.length - 1)*4)).take 4=[.str x.name,.str x.super,.slice x.fa x.fields.length x.fc,.slice x.ma x.meths.length x.mc]:=hv
    have hx0:cs[o+(l.length - 1)*4]? = some (.str x.name):=by have:=congrArg (fun z=>z[0]?) hcx;simpa [pz,dw] using this
    generalize (if l=[] then some 0 else none)=cc at h112;generalize rowO O l=HH at *;have n3:¬ ((l.length:Int) < 2):=by omega
    simp only [c1,decide_eq_false c2,decide_eq_true c3,nj,dh];by_cases c4:l.length≤W.length
    ·have n4:¬ ((W.length:Int) < l.length):=by omega
     simp only [decide_eq_true c4,dh];by_cases c5:x.name=[79,98,106,101,99,116]
     ·simp only [decide_eq_true c5,dh];rcases bc (fieldsU W [] u.fields) with c6 | c6
      ·simp only [c6,if_true,dh] at hF ⊢;rcases bc (methsU W u [] u.meths) with c7 | c7
       ·simp only [c7,if_true] at hM ⊢;simp (disch:=omega) [au t106,code106,h112,h26,c1,c2,n3,n4,hp,hsub,hx0,c5,hF,hM]
       ·simp only [c7,am,if_false] at hM ⊢;simp (disch:=omega) [au t106,code106,h112,h26,c1,c2,n3,n4,hp,hsub,hx0,c5,hF,hM]
      ·simp only [c6,am,if_false,d8] at hF ⊢;simp (disch:=omega) [au t106,code106,h112,h26,c1,c2,n3,n4,hp,hsub,hx0,c5,hF]
     ·simp only [decide_eq_false c5,d8];simp (disch:=omega) [au t106,code106,h112,h26,c1,c2,n3,n4,hp,hsub,hx0,c5]
    ·have n4:(W.length:Int) < l.length:=by omega
     simp only [decide_eq_false c4,d8];simp (disch:=omega) [au t106,code106,h112,h26,c1,c2,n3,n4]
   ·have n3:(l.length:Int) < 2:=by omega
    simp only [c1,decide_eq_false c2,decide_eq_false c3,nj,dh,d8];rw [xm] at h112;generalize (if l=[] then none else some (O.length,0))=aa at h112;generalize (if l=[] then some 0 else none)=cc at h112;generalize rowO O l=HH at h112;simp (disch:=omega) [au t106,code106,h112,h26,c1,c2,n3]
 ·simp only [c1,d8];rw [xm] at h112;generalize (if l=[] then none else some (O.length,0))=aa at h112;generalize (if l=[] then some 0 else none)=cc at h112;generalize rowO O l=HH at h112;simp (disch:=omega) [au t106,code106,h112,h26,c1]
end
end Go.Abs.Zh

namespace Go.Abs.Zh
open Go.Abs.Zd
variable {os O H:List AObj} {b w:Nat}
def natM (x:Str × Str):MethU:=⟨true,x.1,x.2,0,0,[],none,some 0,[],none,some 0,[],none,some 0⟩
def plainU (n s:Str):UnitU:=⟨n,s,[],none,some 0,[],none,some 0⟩
def sysU (m:Nat):UnitU:=⟨sysT,objectT,[],none,some 0,natL.map natM,some (m,0),some 8⟩
def built3 (m:Nat):List UnitU:=[plainU objectT [],plainU throwT objectT,sysU m]
def faultU (n:Str):UnitU:=plainU n throwT
def builtU (m:Nat):List UnitU:=built3 m++faultsL.map faultU
def natO:AObj:=.cells 8 ((natL.map natM).flatMap MethU.cells)
section
attribute [-simp] getElem?_pos getElem?_neg List.all_eq_true
attribute [local simp] gz gs nltT nltF iltT iltF ileT nleT de
theorem s115 {n d:Str} {h:Heap}:xCall T 115 [.str n,.str d] h=some (.agg (natM (n,d)).cells,h):=by obtain ⟨os,b,w⟩:=h;simp (disch:=omega) [au t115,code115,natM,MethU.cells]
theorem l108 {m q lo:Nat} (hlo:lo≤os.length) (hb:b≤os.length) (hq:os.length≤q):∀ (j i p:Nat) (M:List AObj) (cc:Option Nat) (w:Nat),i+j=6→lo≤w→Pre os M→p≠q→os.length≤p→(cc=none∨(cc=some 3∧i=0)) →
  M[p]? = some (.cells 4 ((built3 m++(faultsL.take i).map faultU).flatMap UnitU.cells))→M[q]? = some (.cells 1 (faultsL.flatMap dj)) →
  ∃ M' p' w',lo≤w'∧Pre os M'∧os.length≤p'∧M'[p']? = some (.cells 4 ((builtU m).flatMap UnitU.cells))∧∀ (k:AExit→St→Option (AVal × Heap)),
  xK T (.loop code108L0) ⟨[(2,.val (.slice (some (p,0)) (3+i) cc)),(19,.val (.slice (some (q,0)) 6 (some 6))),(20,.val (.int .i64 6)),(21,.val (.int .i64 i))],⟨M,b,w⟩⟩ (k:=⟨k⟩) =
   k (.exit 0) ⟨[(2,.val (.slice (some (p',0)) 9 none))],⟨M',b,w'⟩⟩
 | 0,i,p,M,cc,w,hi,hw,hM,hpq,hp,hc,h1,h2=>by
  have:i=6:=by omega
  subst this;obtain rfl:cc=none:=by (rcases hc with h | ⟨_,h⟩ <;> first | exact h | omega)
  refine ⟨M,p,w,hw,hM,hp,h1,fun k=>?_⟩;rw [cg];simp (disch:=omega) [code108L0]
 | j+1,i,p,M,cc,w,hi,hw,hM,hpq,hp,hc,h1,h2=>by
  obtain ⟨x,hx⟩:∃ x,faultsL[i]? = some x:=⟨_,ah (show i < 6 by omega)⟩;have hpl:=aj h1;have hql:=aj h2
  have hx2:(faultsL.flatMap dj)[i]? = some (.str x):=by have:faultsL.flatMap dj=faultsL.map AVal.str:=rfl;rw [this,cz,hx]; rfl
  generalize hA:built3 m++(faultsL.take i).map faultU=A at *
  have hAl:A.length=3+i:=by rw [← hA]; simp [built3,faultsL]; omega
  have hfl:(A.flatMap UnitU.cells).length=A.length*4:=lx UnitU.cells 4 (fun _=>rfl) A
  have hA2:built3 m++(faultsL.take (i+1)).map faultU=A++[faultU x]:=by rw [pk hx,i7,← ba,hA]; rfl
  have e2:((i+1:Nat):Int)=(i:Int)+1:=by omega
  have e3:(3+(i+1))=3+i+1:=by omega
  have hMl:=hM.len;have hbp:b≤p:=by omega
  have hz:∀ X w,il 4 ⟨M++X,b,w⟩ (.slice (some (p,0)) (3+i) cc)=some (A.flatMap UnitU.cells):=fun X w=>pu (by show (M++X)[p]? = _; rw [ag hpl]; exact h1) (by omega)
  have hp1:∀ X,(M++X)[p]? = some (.cells 4 (A.flatMap UnitU.cells)):=fun X=>by rw [ag hpl]; exact h1
  have hset:∀ X y,(M++X).set p y=M.set p y++X:=fun X y=>by rw [tf _ _ hpl]
  have hfc:(faultU x).cells=[.str x,.str throwT,.slice none 0 (some 0),.slice none 0 (some 0)]:=rfl;have hz2:∀ w,il 4 ⟨M++[.cells 4 [.str x,.str [84,104,114,111,119,97,98,108,101],.slice none 0 (some 0),.slice none 0 (some 0)]],b,w⟩ (.slice (some (M.length,0)) 1 (some 1))=some [.str x,.str [84,104,114,111,119,97,98,108,101],.slice none 0 (some 0),.slice none 0 (some 0)]:=fun w=>pu (by rw [dp]; rfl) rfl
  rcases hc with rfl | ⟨rfl,rfl⟩
  ·obtain ⟨M',p',w',r1,r2,r3,r5,ih⟩:=l108 (m:=m) hlo hb hq j (i+1) (M.length+1) (M.set p .dead++[.cells 4 (faultU x).cells,.cells 4 ((A++[faultU x]).flatMap UnitU.cells)]) none (min w p) (by omega) (by omega) ((hM.set _ hp).trans (Pre.app _ _)) (by omega) (by omega) (.inl rfl)
    (by rw [hA2,show M.length+1=(M.set p .dead).length+1 by simp,du]; rfl) (by rw [ag (by simp; omega),ap hpq]; exact h2)
   refine ⟨M',p',w',r1,r2,r3,r5,fun k=>?_⟩;have ih:=ih k;rw [e2,e3,jp] at ih;rw [cg,← ih];generalize ACode.loop code108L0=L';simp only [ci,jo,co,hfc,throwT];simp (disch:=omega) [code108L0,-il,hz,hz2,hp1,h2,hx2,du,dp,hset]
  ·obtain ⟨M',p',w',r1,r2,r3,r5,ih⟩:=l108 (m:=m) hlo hb hq j (0+1) (M.length+1) (M++[.cells 4 (faultU x).cells,.cells 4 ((A++[faultU x]).flatMap UnitU.cells)]) none w (by omega) (by omega) (hM.trans (Pre.app _ _)) (by omega) (by omega) (.inl rfl)
    (by rw [hA2,du]; rfl) (by rw [ag (by omega)]; exact h2)
   refine ⟨M',p',w',r1,r2,r3,r5,fun k=>?_⟩;have ih:=ih k;rw [e2,e3,jp] at ih;rw [cg,← ih];generalize ACode.loop code108L0=L';simp only [ci,jo,co,hfc,throwT];simp (disch:=omega) [code108L0,-il,hz,hz2,hp1,h2,hx2,du,dp,hset]
end
theorem yk (m:Nat):AVal.idsL ((builtU m).flatMap UnitU.cells)=[m]:=rfl
theorem ren_built (f:Nat→Nat) (m:Nat):AVal.renL f ((builtU m).flatMap UnitU.cells)=(builtU (f m)).flatMap UnitU.cells:=rfl
theorem zac:natO.ids=[]:=rfl
theorem ren_nat (f:Nat→Nat):natO.ren f=natO:=rfl
theorem builtU_fin {M:List AObj} {p w0 w2:Nat} (hM:Pre (O++[natO]) M) (hp:O.length+1≤p) (h1:M[p]? = some (.cells 4 ((builtU O.length).flatMap UnitU.cells))) (hw:O.length≤w2) :
  dy ⟨O,b,w0⟩ (.slice (some (p,0)) 9 none) ⟨M,b,w2⟩=(.slice (some (O.length,0)) 9 none,⟨O++[.cells 4 ((builtU (O.length+1)).flatMap UnitU.cells),natO],b,w0⟩):=by
 have h2:M[O.length]? = some natO:=hM _ _ (by rw [dp]; rfl)
 have hr:reach ⟨M,b,w2⟩ O.length 1000 [p] []=[p,O.length]:=by rw [jd,if_neg (by omega),if_neg (by simp)];simp only [Heap.get,h1,bw,cq,idsC,yk,co,bj];rw [jd,if_neg (by omega),if_neg (by simp; omega)];simp only [Heap.get,h2,bw,cq,zac,co,bj,bl];rfl
 have hv:AVal.under O.length (.slice (some (p,0)) 9 none)=false:=by simp [AVal.under]; omega
 have hw2:(⟨O,b,w0⟩:Heap).size≤(⟨M,b,w2⟩:Heap).wmin:=hw;refine (ly hw2 hv hr fun i hi=>?_).trans ?_
 ·simp only [AVal.ids,ci,jo,Heap.get,h1,h2,bw,cq,idsC,yk,zac,co,bl,bj,br,d7,or_false] at hi ⊢;omega
 ·have key:∀ f:Nat→Nat,f p=O.length→f O.length=O.length+1 →
    ((AVal.slice (some (p,0)) 9 none).ren f,(⟨O++[p,O.length].map fun i=>(((⟨M,b,w2⟩:Heap).get i).map (AObj.ren f)).getD .dead,b,w0⟩:Heap)) =
     (.slice (some (O.length,0)) 9 none,⟨O++[.cells 4 ((builtU (O.length+1)).flatMap UnitU.cells),natO],b,w0⟩):=by
   intro f e1 e2;simp only [AVal.ren,Heap.get,h1,h2,bw,cq,cf,fm,renC,e1,e2,ren_built,ren_nat]
  refine key _ ?_ ?_
  ·show (if p < O.length then p else _)=_
   rw [if_neg (by omega)]; simp [idxIn]
  ·have:p≠O.length:=by omega
   simp [idxIn,this]
theorem s108 (hb:b≤O.length):xCall T 108 [] ⟨O,b,w⟩=some (.slice (some (O.length,0)) 9 none,⟨O++[.cells 4 ((builtU (O.length+1)).flatMap UnitU.cells),natO],b,w⟩):=by
 have h115:=fun n d w=>s115 (n:=n) (d:=d) (h:=⟨O,b,w⟩)
 have hl:=l108 (os:=O++[natO]) (m:=O.length) (q:=O.length+2) (lo:=O.length) (b:=b) (by simp) (by simp; omega) (by simp) 6 0 (O.length+1) (O++[natO,.cells 4 ((built3 O.length).flatMap UnitU.cells),.cells 1 (faultsL.flatMap dj)]) (some 3) O.length (by simp) (ai _)
  (by have:=Pre.app (O++[natO]) [.cells 4 ((built3 O.length).flatMap UnitU.cells),.cells 1 (faultsL.flatMap dj)]; simpa using this) (by omega) (by simp) (.inr ⟨rfl,rfl⟩) (by rw [du]; rfl) (by rw [du]; rfl)
 obtain ⟨M',p',w',r1,r2,r3,r5,hk⟩:=hl;have hf:=fun w0=>builtU_fin (b:=b) (w0:=w0) r2 (by simpa using r3) r5 r1
 simp only [natM,MethU.cells,bf] at h115;simp only [ce,iz,natO,natL,natM,built3,plainU,sysU,faultsL,UnitU.cells,MethU.cells,dj,cf,fm,ci,jo,co,bl,bj,bf,az,objectT,throwT,sysT] at hk;simp (disch:=omega) [-getElem?_pos,-getElem?_neg,-List.all_eq_true,gz,gs,nltT,nltF,iltT,iltF,ileT,nleT,de,au t108,code108,h115,-dy,bo,du,dp,hk,hf]
end Go.Abs.Zh

namespace Go.Abs.Zh
open Go.Abs.Zd
variable {os O H:List AObj} {b w:Nat}
section
attribute [-simp] getElem?_pos getElem?_neg List.all_eq_true
attribute [local simp] gz gs nltT nltF iltT iltF ileT nleT de
theorem l107a {L:List UnitU} {a:Option (Nat × Nat)} {c:Option Nat} {u:UnitU} {x0 x4 x17 x18 x19:AVal} (hR:Row H 4 UnitU.cells L a) (hL:L.length≤9223372036854775807):∀ (j i:Nat) (w:Nat),i+j=L.length→∀ (k:AExit→St→Option (AVal × Heap)),
  xK T (.loop code107L1) ⟨[(0,.val x0),(4,.val x4),(6,.var u.cells),(17,.val x17),(18,.val x18),(19,.val x19),(26,.val (.slice a L.length c)),(27,.val (.int .i64 L.length)),(28,.val (.int .i64 i))],⟨H,b,w⟩⟩ (k:=⟨k⟩) =
   if (L.drop i).all (fun v=>!decide (u.name=v.name)) then k (.exit 2) ⟨[(0,.val x0),(4,.val x4),(17,.val x17),(18,.val x18),(19,.val x19)],⟨H,b,w⟩⟩ else k .ret ⟨[(2,.val (.slice none 0 (some 0))),(3,.val (.bool false))],⟨H,b,w⟩⟩
 | 0,i,w,hi,k=>by rw [cg,b0 (by omega)];simp (disch:=omega) [code107L1]
 | j+1,i,w,hi,k=>by
  obtain ⟨v,hx⟩:∃ v,L[i]? = some v:=⟨_,ah (by omega)⟩;obtain ⟨p,o,cs,ha,hp,hpl,hcs,hv⟩:=j7 hR hx;have ih:=l107a (c:=c) (u:=u) (x0:=x0) (x4:=x4) (x17:=x17) (x18:=x18) (x19:=x19) hR hL j (i+1) w (by omega) k;have e2:((i+1:Nat):Int)=(i:Int)+1:=by omega
  rw [e2] at ih;unfold UnitU.cells at ih hv ⊢;rw [ha] at ih ⊢;rw [cg,jx hx];simp only [dv];generalize ACode.loop code107L1=L' at ih ⊢;by_cases c1:u.name=v.name
  ·simp only [decide_eq_true c1,Bool.not_true,d8];simp (disch:=omega) [code107L1,hp,hv,c1]
  ·simp only [decide_eq_false c1,nj,dh];simp (disch:=omega) [code107L1,hp,hv,c1,ih]
end
def namesU:List UnitU→List UnitU→Bool
 | _,[]=>true
 | A,u :: r=>A.all (fun v=>!decide (u.name=v.name)) && namesU (A++[u]) r
section
attribute [-simp] getElem?_pos getElem?_neg List.all_eq_true
attribute [local simp] gz gs nltT nltF iltT iltF ileT nleT de
theorem l107b {L:List UnitU} {a:Option (Nat × Nat)} {x0:AVal} (hR:Row H 4 UnitU.cells L a) (hL:L.length≤9223372036854775807):∀ (j i:Nat) (w:Nat),i+j=L.length→∀ (k:AExit→St→Option (AVal × Heap)),
  xK T (.loop code107L2) ⟨[(0,.val x0),(4,.val (.slice a L.length none)),(17,.val (.slice a L.length none)),(18,.val (.int .i64 L.length)),(19,.val (.int .i64 i))],⟨H,b,w⟩⟩ (k:=⟨k⟩) =
   if namesU (L.take i) (L.drop i) then k (.exit 0) ⟨[(0,.val x0),(4,.val (.slice a L.length none))],⟨H,b,w⟩⟩ else k .ret ⟨[(2,.val (.slice none 0 (some 0))),(3,.val (.bool false))],⟨H,b,w⟩⟩
 | 0,i,w,hi,k=>by rw [cg,b0 (by omega)];simp (disch:=omega) [code107L2,namesU]
 | j+1,i,w,hi,k=>by
  obtain ⟨u,hx⟩:∃ v,L[i]? = some v:=⟨_,ah (by omega)⟩;obtain ⟨p,o,cs,ha,hp,hpl,hcs,hv⟩:=j7 hR hx;have ih:=l107b (x0:=x0) hR hL j (i+1) w (by omega) k;have e2:((i+1:Nat):Int)=(i:Int)+1:=by omega
  rw [e2,pk hx] at ih;have hlt:(L.take i).length=i:=by rw [mt]; omega
  have hin:=fun (x4 x17 x18 x19:AVal) c w k=>l107a (b:=b) (c:=c) (u:=u) (x0:=x0) (x4:=x4) (x17:=x17) (x18:=x18) (x19:=x19) (row_take hR i) (by omega) i 0 w (by omega) k
  simp only [ce,eo,hlt] at hin;have hbd:=yl (n:=L.length) (i:=i) (c:=none) (by omega) (by simp);rw [ha] at hin ih ⊢;rw [cg,jx hx];simp only [namesU];generalize ACode.loop code107L2=L' at ih ⊢;unfold UnitU.cells at hv hin;rcases bc ((L.take i).all (fun v=>!decide (u.name=v.name))) with c4 | c4
  ·rw [c4] at hin;simp only [c4,dh,if_true] at hin ⊢;simp (disch:=omega) [code107L2,-bounds,hbd,hin,hp,hv,ih]
  ·rw [c4] at hin;simp only [c4,d8,am,if_false] at hin ⊢;simp (disch:=omega) [code107L2,-bounds,hbd,hin,hp,hv]
theorem l107c {W:List UnitU} {p:Option (Nat × Nat)} {cw:Option Nat} {L:List UnitU} {a:Option (Nat × Nat)} {c:Option Nat} (hW:Units H W p) (hR:Row H 4 UnitU.cells L a) (hL:L.length≤9223372036854775807) (hok:∀ u ∈ L,u.ok H∧u.cap) (hb:b≤H.length):∀ (j i:Nat) (w:Nat),i+j=L.length→∀ (k:AExit→St→Option (AVal × Heap)),
  xK T (.loop code107L0) ⟨[(4,.val (.slice p W.length cw)),(39,.val (.slice a L.length c)),(40,.val (.int .i64 L.length)),(41,.val (.int .i64 i))],⟨H,b,w⟩⟩ (k:=⟨k⟩) =
   if (L.drop i).all (unitU W) then k (.exit 4) ⟨[(4,.val (.slice p W.length cw))],⟨H,b,w⟩⟩ else k .ret ⟨[(2,.val (.slice none 0 (some 0))),(3,.val (.bool false))],⟨H,b,w⟩⟩
 | 0,i,w,hi,k=>by rw [cg,b0 (by omega)];simp (disch:=omega) [code107L0]
 | j+1,i,w,hi,k=>by
  obtain ⟨u,hx⟩:∃ v,L[i]? = some v:=⟨_,ah (by omega)⟩;obtain ⟨q,o,cs,ha,hp,hpl,hcs,hv⟩:=j7 hR hx;have ih:=l107c (c:=c) (cw:=cw) hW hR hL hok hb j (i+1) w (by omega) k;have e2:((i+1:Nat):Int)=(i:Int)+1:=by omega
  rw [e2] at ih;obtain ⟨h1,h2⟩:=hok u (bz hx);have h106:=fun w=>s106 (b:=b) (w:=w) (c:=cw) hW h1 h2 hb
  rw [ha] at ih ⊢;rw [cg,jx hx];simp only [dv];generalize ACode.loop code107L0=L' at ih ⊢;unfold UnitU.cells at hv h106;rcases bc (unitU W u) with c4 | c4
  ·rw [c4] at h106;simp only [c4,dh];simp (disch:=omega) [code107L0,h106,hp,hv,ih]
  ·rw [c4] at h106;simp only [c4,d8,am,if_false];simp (disch:=omega) [code107L0,h106,hp,hv]
end
def iy (m:Nat) (l:List UnitU):List UnitU:=builtU m++l
def worldU (m:Nat) (l:List UnitU):Bool:=decide (l.length≤32) && (namesU [] (iy m l) && l.all (unitU (iy m l)))
theorem zbz {p n w0 w2:Nat} {l:List UnitU} (hl:l.length≤40) (hlow:∀ u ∈ l,u.low O.length) (hp:O.length≤p) (hp1:p≠O.length+1) (h1:H[p]? = some (.cells 4 ((iy (O.length+1) l).flatMap UnitU.cells))) (h2:H[O.length+1]? = some natO) (hw:O.length≤w2) :
  dy ⟨O,b,w0⟩ (.tuple [.slice (some (p,0)) n none,.bool true]) ⟨H,b,w2⟩=(.tuple [.slice (some (O.length,0)) n none,.bool true],⟨O++[.cells 4 ((iy (O.length+1) l).flatMap UnitU.cells),natO],b,w0⟩):=by
 have hi:AVal.idsL ((iy (O.length+1) l).flatMap UnitU.cells)=(O.length+1) :: AVal.idsL (l.flatMap UnitU.cells):=by unfold iy; rw [jp,ov,yk]; rfl
 have hlen:=qi (L:=l);have hids:=ym hlow
 have hr:reach ⟨H,b,w2⟩ O.length 1000 [p] []=[p,O.length+1]:=by rw [jd,if_neg (by omega),if_neg (by simp)];simp only [Heap.get,h1,bw,cq,idsC,hi,co,bj];rw [jd,if_neg (by omega),if_neg (by simp; omega)];simp only [Heap.get,h2,bw,cq,zac,co,bj,bl];exact yq _ _ (by omega) hids
 have hv:AVal.under O.length (.tuple [.slice (some (p,0)) n none,.bool true])=false:=by simp [AVal.under,AVal.unders]; omega
 have hw2:(⟨O,b,w0⟩:Heap).size≤(⟨H,b,w2⟩:Heap).wmin:=hw;refine (ly (k:=[p,O.length+1]) hw2 hv (by simpa [AVal.ids,AVal.idsL] using hr) fun i hi'=>?_).trans ?_
 ·simp only [AVal.ids,AVal.idsL,ci,jo,Heap.get,h1,h2,bw,cq,idsC,hi,zac,co,bl,bj,br,d7,or_false] at hi' ⊢;show i < O.length∨_;rcases hi' with h | h | h
  ·exact .inr (.inl h)
  ·exact .inr (.inr h)
  ·exact .inl (hids i h)
 ·have key:∀ f:Nat→Nat,f p=O.length→f (O.length+1)=O.length+1→(∀ i,i < O.length→f i=i) →
    ((AVal.tuple [.slice (some (p,0)) n none,.bool true]).ren f,(⟨O++[p,O.length+1].map fun i=>(((⟨H,b,w2⟩:Heap).get i).map (AObj.ren f)).getD .dead,b,w0⟩:Heap)) =
     (.tuple [.slice (some (O.length,0)) n none,.bool true],⟨O++[.cells 4 ((iy (O.length+1) l).flatMap UnitU.cells),natO],b,w0⟩):=by
   intro f e1 e2 e3
   have hren:AVal.renL f ((iy (O.length+1) l).flatMap UnitU.cells)=(iy (O.length+1) l).flatMap UnitU.cells:=by unfold iy; rw [jp,xg,ren_built,e2,yo e3 hlow]
   simp only [AVal.ren,AVal.renL,Heap.get,h1,h2,bw,cq,cf,fm,renC,e1,hren,ren_nat]
  refine key _ ?_ ?_ fun i hi=>if_pos hi
  ·show (if p < O.length then p else _)=_
   rw [if_neg (by omega)]; simp [idxIn]
  ·have:¬ p=O.length+1:=hp1;simp [idxIn,this]
end Go.Abs.Zh

namespace Go.Abs.Zh
open Go.Abs.Zd
variable {os O H:List AObj} {b w:Nat}
theorem zbx {n s:Str} (hn:n.length≤big) (hs:s.length≤big):(plainU n s).ok H :=
 ⟨hn,hs,⟨fun h=>absurd rfl h⟩,dt _,by simp [under,plainU],by simp [plainU],⟨fun h=>absurd rfl h⟩,dt _,by simp [under,plainU],by simp [plainU]⟩
theorem natM_ok {x:Str × Str} (h1:x.1.length≤big) (h2:x.2.length≤big):(natM x).ok H :=
 ⟨h1,h2,⟨fun h=>absurd rfl h⟩,dt _,by simp [under,natM],by simp [natM],⟨fun h=>absurd rfl h⟩,dt _,by simp [under,natM],by simp [natM],⟨fun h=>absurd rfl h⟩,dt _,by simp [under,natM],by simp [natM]⟩
theorem sysU_ok {m:Nat} (h:H[m]? = some natO):(sysU m).ok H :=
 ⟨by show sysT.length≤big; decide,by show objectT.length≤big; decide,⟨fun h=>absurd rfl h⟩,dt _,by simp [under,sysU],by simp [sysU],Row.mk0 (fun _=>rfl) h,by show (natL.map natM).length≤big; decide,by
  have:=aj h;intro i o e;simp only [sysU,bt,eg] at e;omega,fun x hx=>by
  simp only [sysU,ei] at hx;obtain ⟨y,hy,rfl⟩:=hx;have:∀ y ∈ natL,y.1.length≤big∧y.2.length≤big:=by decide
  exact natM_ok (this y hy).1 (this y hy).2⟩
theorem builtU_ok {m:Nat} (h:H[m]? = some natO):∀ u ∈ builtU m,u.ok H:=by
 intro u hu;rcases bp.1 hu with hu | hu
 ·simp only [built3,br,d7,or_false] at hu;rcases hu with rfl | rfl | rfl
  ·exact zbx (by decide) (by decide)
  ·exact zbx (by decide) (by decide)
  ·exact sysU_ok h
 ·simp only [ei] at hu;obtain ⟨n,hn,rfl⟩:=hu;have:∀ n ∈ faultsL,n.length≤big:=by decide
  exact zbx (this n hn) (by decide)
theorem allU_ok {m:Nat} {l:List UnitU} (h:H[m]? = some natO) (hl:∀ u ∈ l,u.ok H):∀ u ∈ iy m l,u.ok H:=fun u hu=>by
 rcases bp.1 hu with hu | hu
 ·exact builtU_ok h u hu
 ·exact hl u hu
def worldO (O:List AObj) (l:List UnitU):List AObj:=O++[.cells 4 ((iy (O.length+1) l).flatMap UnitU.cells),natO]
theorem zby (m:Nat) (l:List UnitU):(iy m l).length=9+l.length:=by simp [iy,builtU,built3,faultsL]; omega
theorem xl {l:List UnitU} (hl:l.length≤40) (hok:∀ u ∈ l,u.ok O):Units (worldO O l) (iy (O.length+1) l) (some (O.length,0)) :=
 ⟨Row.mk0 (fun _=>rfl) (by unfold worldO; rw [dp]; rfl),by rw [zby]; omega,allU_ok (by unfold worldO; rw [du]; rfl) fun u hu=>(hok u hu).pre (Pre.app _ _)⟩
section
attribute [-simp] getElem?_pos getElem?_neg List.all_eq_true
attribute [local simp] gz gs nltT nltF iltT iltF ileT nleT de
theorem s107 {l:List UnitU} {a:Option (Nat × Nat)} {c:Option Nat} (hR:Row O 4 UnitU.cells l a) (hl:l.length≤40) (hok:∀ u ∈ l,u.ok O∧u.cap) (hb:b≤O.length) :
  xCall T 107 [.slice a l.length c] ⟨O,b,w⟩=some (if worldU (O.length+1) l then (.tuple [.slice (some (O.length,0)) (iy (O.length+1) l).length none,.bool true],⟨worldO O l,b,w⟩) else (.tuple [.slice none 0 (some 0),.bool false],⟨O,b,w⟩)):=by
 have h108:=fun w=>s108 (O:=O) (b:=b) (w:=w) hb
 have hlen:=zby (O.length+1) l;have hlow:∀ u ∈ l,u.low O.length:=fun u hu=>(hok u hu).1.low
 unfold worldU;by_cases c0:l=[]
 ·subst c0;have hW:Units (worldO O []) (iy (O.length+1) []) (some (O.length,0)):=xl (by simp) (by simp);have e0:builtU (O.length+1)=iy (O.length+1) []:=(co _).symm;have h1:=fun x0 w k=>l107b (b:=b) (x0:=x0) hW.r hW.len (iy (O.length+1) []).length 0 w (by simp) k
  have h2:=fun w k=>l107c (b:=b) (cw:=none) (a:=a) (c:=c) (L:=[]) hW ⟨fun h=>absurd rfl h⟩ (by simp) (by simp) (by unfold worldO; simp; omega) 0 0 w (by simp) k
  have hf:=fun w0=>zbz (O:=O) (b:=b) (p:=O.length) (n:=9) (w0:=w0) (l:=[]) (H:=worldO O []) (by simp) (by simp) (by simp) (by simp) (by unfold worldO; rw [dp]; rfl) (by unfold worldO; rw [du]; rfl) (ai _)
  rw [e0] at h108;rw [hlen] at h1 h2 ⊢;simp only [ce,bf,iz,List.take_zero,eo,List.all_nil,if_true,Bool.and_true,dt,decide_true,dh] at h1 h2 ⊢;have hWl:(iy (O.length+1) []).length=9:=hlen;have hz:∀ w,il 4 ⟨O++[.cells 4 ((iy (O.length+1) []).flatMap UnitU.cells),natO],b,w⟩ (.slice (some (O.length,0)) 9 none)=some ((iy (O.length+1) []).flatMap UnitU.cells):=fun w=>pu (by rw [dp]; rfl) rfl
  unfold worldO at *;generalize iy (O.length+1) []=W at *;rcases bc (namesU [] W) with c4 | c4
  ·rw [c4] at h1;simp only [c4,if_true] at h1 ⊢;simp (disch:=omega) [au t107,code107,h108,-dy,-il,qh,hz,h1,h2,hf]
  ·rw [c4] at h1;simp only [c4,am,if_false] at h1 ⊢;simp (disch:=omega) [au t107,code107,h108,-il,qh,hz,h1]
 ·have c1:l.length≠0:=fun e=>c0 (bq e)
  have hH:Pre O (O++[.dead,natO,.cells 4 ((iy (O.length+1) l).flatMap UnitU.cells)]):=Pre.app _ _
  have hW:Units (O++[.dead,natO,.cells 4 ((iy (O.length+1) l).flatMap UnitU.cells)]) (iy (O.length+1) l) (some (O.length+2,0)) :=
   ⟨Row.mk0 (fun _=>rfl) (by rw [du]; rfl),by rw [hlen]; omega,allU_ok (by rw [du]; rfl) fun u hu=>(hok u hu).1.pre hH⟩
  have hz:∀ w,il 4 ⟨O++[.cells 4 ((builtU (O.length+1)).flatMap UnitU.cells),natO],b,w⟩ (.slice (some (O.length,0)) 9 none)=some ((builtU (O.length+1)).flatMap UnitU.cells):=fun w=>pu (by rw [dp]; rfl) rfl
  have hz2:=fun w=>ol (h:=⟨O++[.cells 4 ((builtU (O.length+1)).flatMap UnitU.cells),natO],b,w⟩) (c:=c) ((Pre.app O _).row hR)
  have hl40:(9+l.length)*80≤140737488355328:=by omega
  have hcat:(builtU (O.length+1)).flatMap UnitU.cells++l.flatMap UnitU.cells=(iy (O.length+1) l).flatMap UnitU.cells:=by unfold iy; rw [jp]
  have h1:=fun x0 w k=>l107b (b:=b) (x0:=x0) hW.r hW.len (iy (O.length+1) l).length 0 w (by simp) k
  have h2:=fun w k=>l107c (b:=b) (cw:=none) (c:=c) hW (hH.row hR) (by omega) (fun u hu=>⟨(hok u hu).1.pre hH,(hok u hu).2⟩) (by simp; omega) l.length 0 w (by simp) k
  have hf:=fun w0 w2 hw=>zbz (O:=O) (b:=b) (p:=O.length+2) (n:=9+l.length) (w0:=w0) (w2:=w2) (l:=l) (H:=O++[.dead,natO,.cells 4 ((iy (O.length+1) l).flatMap UnitU.cells)]) hl hlow (by omega) (by omega) (by rw [du]; rfl) (by rw [du]; rfl) hw
  have hf:=fun w0=>hf w0 O.length (ai _)
  rw [hlen] at h1 h2 ⊢;simp only [Int.natCast_add,ce,List.take_zero,eo] at h1 h2 ⊢;by_cases c2:l.length≤32
  ·have n2:¬ ((32:Int) < l.length):=by omega
   simp only [decide_eq_true c2,dh];rcases bc (namesU [] (iy (O.length+1) l)) with c4 | c4
   ·rw [c4] at h1;simp only [c4,if_true,dh] at h1 ⊢;rcases bc (l.all (unitU (iy (O.length+1) l))) with c5 | c5
    ·rw [c5] at h2;simp only [c5,if_true] at h2 ⊢;unfold worldO;simp (disch:=omega) [au t107,code107,h108,-dy,-il,hz,hz2,hl40,hcat,du,dp,iw,gv,c1,n2,h1,h2,hf]
    ·rw [c5] at h2;simp only [c5,am,if_false] at h2 ⊢;simp (disch:=omega) [au t107,code107,h108,-il,hz,hz2,hl40,hcat,du,dp,iw,gv,c1,n2,h1,h2]
   ·rw [c4] at h1;simp only [c4,am,if_false,d8] at h1 ⊢;simp (disch:=omega) [au t107,code107,h108,-il,hz,hz2,hl40,hcat,du,dp,iw,gv,c1,n2,h1]
  ·have n2:(32:Int) < l.length:=by omega
   simp only [decide_eq_false c2,d8,am,if_false];simp (disch:=omega) [au t107,code107,h108,-il,hz,hz2,hl40,hcat,du,dp,iw,gv,c1,n2]
end
end Go.Abs.Zh

namespace Go.Abs.Zt
open Go.Abs.Zd Go.Abs.Zh
open Go.Abs.Zo hiding T sub
variable {os O:List AObj} {b w:Nat} {N:Nat} {S:List (Str × Str)} {F M:List (Key × Mem)} {V:List (Key × Bool)}
theorem subT:∀ g f,Zh.T g=some f→Zt.T g=some f:=fun g f h=>Zt.sub g f (Zo.subH g f h)
def yv (t:Str):Bool:=decide (t=[84]) || decide (t=[73]) || decide (t=[74]) || decide (t=[45])
def zcb (S:List (Str × Str)) (s t:Str):Bool:=if t=[84] then true else if yv s || yv t then decide (s=t) else goesS S s t
section
attribute [-simp] getElem?_pos getElem?_neg List.all_eq_true
attribute [local simp] gz gs nltT nltF iltT iltF ileT nleT de
theorem s267 {h:Heap} {t:Str}:xCall T 267 [.str t] h=some (.bool (yv t),h):=by
 obtain ⟨os,b,w⟩:=h;unfold yv;by_cases c1:t=[84]
 ·simp (disch:=omega) [au t267,code267,c1]
 ·by_cases c2:t=[73]
  ·simp (disch:=omega) [au t267,code267,c1,c2]
  ·by_cases c3:t=[74]
   ·simp (disch:=omega) [au t267,code267,c1,c2,c3]
   ·simp (disch:=omega) [au t267,code267,c1,c2,c3]
theorem s247 (h:Zh.World O N S F M V) (hb:b≤O.length) (hS:S.length≤9223372036854775807) (s t:Str) (w:Nat) (hs:s.length≤9223372036854775807) (ht:t.length≤9223372036854775807) :
  xCall T 247 [.ptr (some (N,0)),.str s,.str t] ⟨O,b,w⟩=some (.bool (zcb S s t),⟨O,b,w⟩):=by
 have h47:=fun w=>fh subT (s47 (b:=b) h hb hS s t w hs ht)
 have h1:=fun h=>s267 (h:=h) (t:=s)
 have h2:=fun h=>s267 (h:=h) (t:=t)
 unfold zcb;by_cases c1:t=[84]
 ·simp (disch:=omega) [au t247,code247,c1]
 ·generalize yv s=p at *;generalize yv t=q at *;cases p with
  | true=>simp (disch:=omega) [au t247,code247,c1,h1,h2]
  | false=>cases q <;> simp (disch:=omega) [au t247,code247,c1,h1,h2,h47]
end
structure StrRow (O:List AObj) (L:List Str) (a:Option (Nat × Nat)):Prop where
 r:Row O 1 dj L a
 n:L.length≤gt
 s:∀ t ∈ L,t.length≤9223372036854775807
theorem qd {L:List Str} {a:Option (Nat × Nat)} {i:Nat} {x:Str} (h:Row O 1 dj L a) (hx:L[i]? = some x):∃ p o cs,a=some (p,o)∧O[p]? = some (.cells 1 cs)∧cs[o+i]? = some (.str x):=by obtain ⟨p,o,cs,h1,h2,h3,h4,h5⟩:=j7 h hx;have h6:=Go.Abs.Zm.take_get (k:=0) h5 (by decide);refine ⟨p,o,cs,h1,h2,?_⟩;rw [xv,iz] at h6;rw [h6]; rfl
section
end
structure FrU where
 locals:List Str
 la:Option (Nat × Nat)
 lc:Option Nat
 stack:List Str
 sa:Option (Nat × Nat)
 sc:Option Nat
def FrU.cells (f:FrU):List AVal:=[.slice f.la f.locals.length f.lc,.slice f.sa f.stack.length f.sc]
structure FrU.ok (O:List AObj) (f:FrU):Prop where
 l:StrRow O f.locals f.la
 s:StrRow O f.stack f.sa
end Go.Abs.Zt

namespace Go.Abs.Zh
open Go.Abs.Zd
variable {os O H:List AObj} {b w:Nat}
structure Left (j:Nat) (r:Int):Prop where
 hi:r≤600
 lo:-1152921504606846976+j*562949953404928≤r
structure Went (j:Nat) (r r':Int):Prop where
 hi:r'≤600
 lo:r - j*562949953404928≤r'
theorem ui:∀ L:List Str,AVal.idsL (L.flatMap dj)=[]
 | []=>rfl
 | t :: L=>by rw [ci,ov,ui L]; rfl
theorem okId_low {n0 m i:Nat} {ds:List Did} (h:i < n0):okId n0 m ds i=true:=by unfold okId; simp [h]
theorem ie {n0 m n:Nat} {ds:List Did} {a:Option (Nat × Nat)} {c:Option Nat} (h:under n0 a):(AVal.slice a n c).ids.all (okId n0 m ds)=true:=by rw [al]; exact fun i hi=>okId_low (ids_slice h i hi)
end Go.Abs.Zh

namespace Go.Abs.Zt
open Go.Abs.Zd Go.Abs.Zh
open Go.Abs.Zo hiding T sub
variable {os O:List AObj} {b w:Nat} {N:Nat} {S:List (Str × Str)} {F M:List (Key × Mem)} {V:List (Key × Bool)}
structure Both (O X:List AObj) (L R:List Str) (a:Option (Nat × Nat)) (w w':Nat):Prop where
 row:Row (O++X) 1 dj (L++R) a
 w:∀ n,n≤O.length→n≤w→n≤w'
structure FrU.low (n:Nat) (f:FrU):Prop where
 l:under n f.la
 s:under n f.sa
section
variable {f:FrU}
section
attribute [-simp] getElem?_pos getElem?_neg List.all_eq_true sget
attribute [local simp] gz gs nltT nltF iltT iltF ileT nleT de jl jm jn
set_option maxHeartbeats 2000000 in
theorem reg242 (hf:f.ok O) (hu:f.low O.length) (hb:b≤O.length) (hn1:f.locals.length≤100) (hn2:f.stack.length≤100) (w:Nat):∃ X a c w',Both O X f.locals f.stack a w w'∧∀ (k:AExit→St→Option (AVal × Heap)),
  xK T code242R0 ⟨[(1,.var f.cells)],⟨O,b,w⟩⟩ (k:=⟨k⟩)=k .normal ⟨[(21,.val (.slice a (f.locals++f.stack).length c)),(22,.val (.int .i64 ((f.locals++f.stack).length:Int))),(23,.val (.int .i64 0))],⟨O++X,b,w'⟩⟩:=by
 have hfc:f.cells=[.slice f.la f.locals.length f.lc,.slice f.sa f.stack.length f.sc]:=rfl;have hl1:=fun b w=>ol (f:=dj) (e:=1) (h:=⟨O++[.cells 1 []],b,w⟩) (c:=f.lc) ((Pre.app O _).row hf.l.r)
 have hs1:=fun b w=>ol (f:=dj) (e:=1) (h:=⟨O++[.cells 1 []],b,w⟩) (c:=f.sc) ((Pre.app O _).row hf.s.r)
 have hl2:=fun b w=>ol (f:=dj) (e:=1) (h:=⟨O++[.cells 1 [],.cells 1 (f.locals.flatMap dj)],b,w⟩) (c:=f.sc) ((Pre.app O _).row hf.s.r)
 have flatL:(f.locals.flatMap dj).length=f.locals.length*1:=lx dj 1 (fun _=>rfl) _;have hla:(f.locals++f.stack).length=f.locals.length+f.stack.length:=aq;by_cases c1:f.locals.length=0
 ·have e1:f.locals=[]:=bq c1;by_cases c2:f.stack.length=0
  ·have e2:f.stack=[]:=bq c2;refine ⟨[.cells 1 []],some (O.length,0),some 0,w,⟨by rw [e1,e2]; exact ⟨fun h=>absurd rfl h⟩,fun _ _ h=>h⟩,fun k=>?_⟩;rw [hla];simp (disch:=omega) [code242R0,hfc,c1,c2,aw,bo,du,dp,iw,gv,-il,qh,ie hu.l,ie hu.s,ui]
  ·refine ⟨[.cells 1 [],.cells 1 (f.stack.flatMap dj)],some (O.length+1,0),none,w,⟨by rw [e1]; exact Row.mk0 (fun _=>rfl) (by rw [du]; rfl),fun _ _ h=>h⟩,fun k=>?_⟩;rw [hla];simp (disch:=omega) [-il,qh,code242R0,hfc,c1,c2,hs1,aw,bo,du,dp,iw,gv,ie hu.l,ie hu.s,ui]
 ·by_cases c2:f.stack.length=0
  ·have e2:f.stack=[]:=bq c2;have hz:=fun w=>pu (e:=1) (n:=f.locals.length) (h:=⟨O++[.cells 1 [],.cells 1 (f.locals.flatMap dj)],b,w⟩) (i:=O.length+1) (c:=none) (by rw [du]; rfl) flatL
   refine ⟨[.cells 1 [],.cells 1 (f.locals.flatMap dj)],some (O.length+1,0),none,w,⟨by rw [e2,co]; exact Row.mk0 (fun _=>rfl) (by rw [du]; rfl),fun _ _ h=>h⟩,fun k=>?_⟩;rw [hla];simp (disch:=omega) [-il,qh,hz,code242R0,hfc,c1,c2,hl1,aw,bo,du,dp,iw,gv,ie hu.l,ie hu.s,ui]
  ·have hz:=fun w=>pu (e:=1) (n:=f.locals.length) (h:=⟨O++[.cells 1 [],.cells 1 (f.locals.flatMap dj)],b,w⟩) (i:=O.length+1) (c:=none) (by rw [du]; rfl) flatL
   refine ⟨[.cells 1 [],.dead,.cells 1 ((f.locals++f.stack).flatMap dj)],some (O.length+2,0),none,min w (O.length+1),⟨Row.mk0 (fun _=>rfl) (by rw [du]; rfl),fun n _ h=>by omega⟩,fun k=>?_⟩;rw [hla,jp];simp (disch:=omega) [-il,qh,hz,hl2,code242R0,hfc,c1,c2,hl1,aw,bo,du,dp,iw,gv,ie hu.l,ie hu.s,ui]
end
section
attribute [-simp] getElem?_pos getElem?_neg List.all_eq_true
attribute [local simp] gz gs nltT nltF iltT iltF ileT nleT de
theorem l242 {L:List Str} {a:Option (Nat × Nat)} {c:Option Nat} (hR:Row O 1 dj L a) (hn:L.length≤1000000) (hs:∀ t ∈ L,t.length≤9223372036854775807):∀ (j i:Nat) (w:Nat),i+j=L.length→∀ (k:AExit→St→Option (AVal × Heap)),
  xK T (.loop code242L0) ⟨[(21,.val (.slice a L.length c)),(22,.val (.int .i64 L.length)),(23,.val (.int .i64 i))],⟨O,b,w⟩⟩ (k:=⟨k⟩) =
  if (L.drop i).all (fun t=>decide (t.length≤150)) then k (.exit 0) ⟨[],⟨O,b,w⟩⟩ else k .ret ⟨[(2,.val (.bool false))],⟨O,b,w⟩⟩
 | 0,i,w,hi,k=>by rw [cg,b0 (by omega)];simp (disch:=omega) [code242L0]
 | j+1,i,w,hi,k=>by
  obtain ⟨x,hx⟩:∃ x,L[i]? = some x:=⟨_,ah (by omega)⟩;obtain ⟨p,o,cs,rfl,hpp,ht⟩:=qd hR hx;have hdx:L.drop i=x :: L.drop (i+1):=jx hx;have ih:=l242 (c:=c) hR hn hs j (i+1) w (by omega) k;have e2:((i+1:Nat):Int)=(i:Int)+1:=by omega
  rw [e2] at ih;have hxl:=hs x (bz hx);rw [cg,hdx,dv];generalize ACode.loop code242L0=LL at ih ⊢;by_cases e:x.length≤150
  ·have e':¬ ((150:Int) < x.length):=by omega
   rw [decide_eq_true e,dh];simp (disch:=omega) [code242L0,hpp,ht,e',ih]
  ·have e':((150:Int) < x.length):=by omega
   rw [decide_eq_false e,d8];simp (disch:=omega) [code242L0,hpp,ht,e']
end
def fewF (f:FrU):Bool:=decide (f.locals.length≤100) && decide (f.stack.length≤100) && (f.locals++f.stack).all fun t=>decide (t.length≤150)
section
attribute [-simp] getElem?_pos getElem?_neg List.all_eq_true
attribute [local simp] gz gs nltT nltF iltT iltF ileT nleT de
theorem s242 (hf:f.ok O) (hu:f.low O.length) (hb:b≤O.length) (w:Nat):xCall T 242 [.agg f.cells] ⟨O,b,w⟩=some (.bool (fewF f),⟨O,b,w⟩):=by
 have hfc:f.cells=[.slice f.la f.locals.length f.lc,.slice f.sa f.stack.length f.sc]:=rfl;have hn1:f.locals.length≤140737488351232:=hf.l.n;have hn2:f.stack.length≤140737488351232:=hf.s.n;unfold fewF;by_cases c1:f.locals.length≤100
 ·have c1':¬ ((100:Int) < f.locals.length):=by omega
  by_cases c2:f.stack.length≤100
  ·have c2':¬ ((100:Int) < f.stack.length):=by omega
   obtain ⟨X,a,c,w',hB,hreg⟩:=reg242 hf hu hb c1 c2 O.length
   have hlp:=l242 (b:=b) (c:=c) (O:=O++X) hB.row (by rw [aq]; omega) (fun t ht=>by
    rcases bp.1 ht with ht | ht
    ·exact hf.l.s t ht
    ·exact hf.s.s t ht) (f.locals++f.stack).length 0 w' (by omega)
   simp only [ce,eo,aq,Int.natCast_add] at hlp;have hw:=hB.w _ (ai _) (ai _);rw [decide_eq_true c1,decide_eq_true c2,dh,dh];rw [hfc] at hreg;cases e:(f.locals++f.stack).all (fun t=>decide (t.length≤150)) with
   | true=>rw [e] at hlp; simp (disch:=omega) [au t242,code242,hfc,c1',c2',hreg,hlp]
   | false=>rw [e] at hlp; simp (disch:=omega) [au t242,code242,hfc,c1',c2',hreg,hlp]
  ·have c2':((100:Int) < f.stack.length):=by omega
   rw [decide_eq_true c1,decide_eq_false c2,dh,d8];simp (disch:=omega) [au t242,code242,hfc,c1',c2']
 ·have c1':((100:Int) < f.locals.length):=by omega
  rw [decide_eq_false c1,d8,d8];simp (disch:=omega) [au t242,code242,hfc,c1']
end
end
end Go.Abs.Zt

namespace Go.Abs.Zh
open Go.Abs.Zd
theorem wa {W:List UnitU} {n:Str}:gj W n=none ↔ ∀ u ∈ W,u.name≠n:=by unfold gj; rw [List.find?_eq_none]; simp
theorem zb0 (u:UnitU) (W:List UnitU) (n:Str):gj (u :: W) n=if u.name=n then some u else gj W n:=by unfold gj; rw [List.find?_cons];by_cases h:u.name=n <;> simp [h]
theorem pv:∀ (W:List UnitU) (n:Str),gd (W.map supE) n=(gj W n).map UnitU.super
 | [],n=>rfl
 | u :: W,n=>by
  rw [zb0];simp only [cf,gd,supE];by_cases h:u.name=n
  ·simp [h]
  ·simp only [h,if_false]; exact pv W n
theorem yr (W:List UnitU) (t:Str):thereS (W.map supE) t=thereU W t:=by
 unfold thereS thereU;cases classOf (bare t) with
 | none=>rfl
 | some c=>simp [pv]
theorem trapOk_eq (W:List UnitU) (t:TrapU):trapOk (W.map supE) t=trapU W t:=by unfold trapOk trapU; simp [pv]
theorem zb1 (W:List UnitU):∀ (k:Nat) (c:Str),lineS (W.map supE) k c=(jc W k c).map UnitU.name
 | 0,c=>rfl
 | k+1,c=>by
  unfold jc;simp only [lineS,pv];cases h:gj W c with
  | none=>rfl
  | some v =>
   have:=(nf h).2;simp only [bw,goL,cf,this];rw [zb1 W k v.super]; rfl
theorem goL_succ (W:List UnitU):∀ (k:Nat) (u:Option UnitU),(goL W (k+1) u).length≤k→goL W (k+1) u=goL W k u
 | 0,none,_=>rfl
 | 0,some v,h=>by simp [goL] at h
 | k+1,none,_=>rfl
 | k+1,some v,h=>by simp only [goL,az] at h ⊢;rw [goL_succ W k (gj W v.super) (by omega)]
theorem zb2 {W:List UnitU} {k:Nat} {c:Str} (h:(jc W (k+1) c).length≤k):jc W (k+1) c=jc W k c:=goL_succ W k _ h
theorem goL_last (W:List UnitU):∀ (k:Nat) (u:Option UnitU) (v:UnitU),(goL W (k+1) u).length=k+1→(goL W k u).getLast? = some v→(gj W v.super).isSome=true
 | 0,u,v,_,h=>by simp [goL] at h
 | k+1,none,v,h,_=>by simp [goL] at h
 | 1,some x,v,h,h2=>by
  simp only [goL,List.getLast?_singleton,bt] at h2;subst h2;cases hf:gj W x.super with
  | none=>simp [goL,hf] at h
  | some _=>rfl
 | k+2,some x,v,h,h2=>by
  have h3:(goL W (k+2) (gj W x.super)).length=k+2:=by simp only [goL,az] at h ⊢; omega
  refine goL_last W (k+1) (gj W x.super) v h3 ?_;cases hf:gj W x.super with
  | none=>rw [hf] at h3; simp [goL] at h3
  | some y =>
   simp only [goL,hf] at h2 ⊢;rwa [List.getLast?_cons_cons] at h2
def rightU (W:List UnitU) (m:MethU):Bool:=match methL m.desc with
 | some (A,r)=>isName m.name && (thereU W r && (A.all (thereU W) && m.traps.all (trapU W)))
 | none=>false
theorem rightS_eq (W:List UnitU) (m:MethU):rightS (W.map supE) m=rightU W m:=by
 unfold rightS rightU;cases methL m.desc with
 | none=>rfl
 | some q =>
  obtain ⟨A,r⟩:=q;simp only [List.all_append,dv,List.all_nil,Bool.and_true];have h1:A.all (thereS (W.map supE))=A.all (thereU W):=by congr 1; funext t; exact yr W t
  have h2:m.traps.all (trapOk (W.map supE))=m.traps.all (trapU W):=by congr 1; funext t; exact trapOk_eq W t
  rw [h1,h2,yr];cases isName m.name <;> cases thereU W r <;> cases A.all (thereU W) <;> cases m.traps.all (trapU W) <;> rfl
theorem methodU_eq (W:List UnitU) (u:UnitU) (m:MethU):methodU W u m=(rightU W m && (jc W (W.length+1) u.name).all (evenM m)):=by
 unfold methodU rightU;cases methL m.desc with
 | none=>rfl
 | some q =>
  obtain ⟨A,r⟩:=q;simp only [Bool.and_assoc]
def fieldsD:List FieldU→List FieldU→Bool
 | _,[]=>true
 | A,f :: r=>A.all (fun g=>!decide (f.name=g.name)) && fieldsD (A++[f]) r
def methsD:List MethU→List MethU→Bool
 | _,[]=>true
 | A,m :: r=>A.all (fun g=>!(decide (m.name=g.name) && decide (m.desc=g.desc))) && methsD (A++[m]) r
def fieldR (W:List UnitU) (f:FieldU):Bool:=isName f.name && (isTy f.desc && thereU W f.desc)
theorem zb3 (W:List UnitU):∀ (A l:List FieldU),fieldsU W A l=(l.all (fieldR W) && fieldsD A l)
 | _,[]=>rfl
 | A,f :: r=>by simp only [fieldsU,dv,fieldsD,zb3 W (A++[f]) r,fieldR];cases isName f.name <;> cases isTy f.desc <;> cases thereU W f.desc <;> cases A.all (fun g=>!decide (f.name=g.name)) <;> simp
theorem methsU_eq (W:List UnitU) (u:UnitU):∀ (A l:List MethU),methsU W u A l=(l.all (methodU W u) && methsD A l)
 | _,[]=>rfl
 | A,m :: r=>by simp only [methsU,dv,methsD,methsU_eq W u (A++[m]) r];cases methodU W u m <;> cases A.all (fun g=>!(decide (m.name=g.name) && decide (m.desc=g.desc))) <;> simp
theorem getE_names (n:Str):∀ A:List FieldU,(gd (A.map fun f=>(f.name,true)) n).getD false = !(A.all fun g=>!decide (n=g.name))
 | []=>rfl
 | f :: A=>by
  simp only [cf,gd,dv];by_cases h:f.name=n
  ·simp [h]
  ·have h':¬ n=f.name:=fun e=>h e.symm
   simp only [h,h',if_false,decide_false,nj,dh];exact getE_names n A
theorem zb4 (W:List UnitU):∀ (A l:List FieldU),fieldsS (W.map supE) (A.map fun f=>(f.name,true)) l=(l.all (fieldR W) && fieldsD A l)
 | _,[]=>rfl
 | A,f :: r=>by have ih:=zb4 W (A++[f]) r;rw [i7] at ih;simp only [cf,fm] at ih;simp only [fieldsS,fieldOk,dv,fieldsD,fieldR,yr,getE_names,Bool.not_not,ih];cases isName f.name <;> cases isTy f.desc <;> cases thereU W f.desc <;> cases A.all (fun g=>!decide (f.name=g.name)) <;> simp
theorem wb (c n d:Str):∀ A:List MethU,gd (A.map (methE c)) (c,n,d)=(methAt A n d).map fun x=>⟨c,x.st⟩
 | []=>rfl
 | m :: A=>by
  have ih:=wb c n d A;unfold methAt at ih ⊢;simp only [cf,gd,methE,List.find?_cons];by_cases h1:m.name=n
  ·by_cases h2:m.desc=d
   ·simp [h1,h2]
   ·simp only [eg,h1,h2,and_false,if_false,decide_true,decide_false,Bool.and_false];exact ih
  ·simp only [eg,h1,false_and,and_false,if_false,decide_false,d8];exact ih
theorem methAt_isSome (n d:Str) (A:List MethU):(methAt A n d).isSome = !(A.all fun g=>!(decide (n=g.name) && decide (d=g.desc))):=by
 induction A with
 | nil=>rfl
 | cons m A ih =>
  unfold methAt at ih ⊢;rw [List.find?_cons];have e1:decide (m.name=n)=decide (n=m.name):=by rw [decide_eq_decide]; exact eq_comm
  have e2:decide (m.desc=d)=decide (d=m.desc):=by rw [decide_eq_decide]; exact eq_comm
  rw [e1,e2,dv];cases decide (n=m.name) && decide (d=m.desc) with
  | true=>simp
  | false=>simpa using ih
theorem methsS_eq (W:List UnitU) (c:Str) (M:List (Key × Mem)) (hM:∀ x ∈ M,x.1.1≠c):∀ (A l:List MethU),methsS (W.map supE) c (M++A.map (methE c)) l=(l.all (rightU W) && methsD A l)
 | _,[]=>rfl
 | A,m :: r=>by
  have ih:=methsS_eq W c M hM (A++[m]) r;rw [i7,← ba] at ih;simp only [cf,fm] at ih
  have hg:(gd (M++A.map (methE c)) (c,m.name,m.desc)).isSome = !(A.all fun g=>!(decide (m.name=g.name) && decide (m.desc=g.desc))):=by rw [nw,getE_none.2 (fun x hx e=>hM x hx (by rw [e])),Option.none_or,wb,Option.isSome_map,methAt_isSome]
  simp only [methsS,methOk,dv,methsD,rightS_eq,hg,Bool.not_not,ih];cases rightU W m <;> cases A.all (fun g=>!(decide (m.name=g.name) && decide (m.desc=g.desc))) <;> simp
def membF (u:UnitU):List (Key × Mem):=u.fields.map (fieldE u.name)
def membM (u:UnitU):List (Key × Mem):=u.meths.map (methE u.name)
theorem built_S (m:Nat):(builtU m).map supE=builtS:=rfl
theorem built_M (m:Nat):(builtU m).flatMap membM=builtM:=rfl
theorem built_F (m:Nat):(builtU m).flatMap membF=[]:=rfl
theorem xq {g:UnitU→List (Key × Mem)} (hg:∀ u,∀ x ∈ g u,x.1.1=u.name) (k:Key):∀ {W:List UnitU},(W.map UnitU.name).Nodup→gd (W.flatMap g) k=(gj W k.1).bind fun u=>gd (g u) k
 | [],_=>rfl
 | u :: W,h=>by
  rw [cf,wd] at h;rw [ci,nw,xq hg k h.2,zb0];by_cases e:u.name=k.1
  ·have hn:gj W k.1=none:=wa.2 fun v hv e2=>h.1 (ei.2 ⟨v,hv,by rw [e2,e]⟩)
   rw [if_pos e,hn];simp
  ·have hn:gd (g u) k=none:=getE_none.2 fun x hx e2=>e (by rw [← hg u x hx,e2])
   rw [if_neg e,hn]; rfl
theorem memb_M (u:UnitU):∀ x ∈ membM u,x.1.1=u.name:=fun x hx=>by obtain ⟨m,_,rfl⟩:=ei.1 hx; rfl
theorem getM {W:List UnitU} (h:(W.map UnitU.name).Nodup) (c n d:Str):gd (W.flatMap membM) (c,n,d)=(gj W c).bind fun u=>(methAt u.meths n d).map fun x=>⟨u.name,x.st⟩:=by
 rw [xq memb_M _ h];cases hf:gj W c with
 | none=>rfl
 | some u =>
  simp only [Option.bind_some,membM];rw [← (nf hf).2,wb]
theorem goL_found (W:List UnitU):∀ (k:Nat) (u:Option UnitU),(∀ v,u=some v→gj W v.name=some v)→∀ v ∈ goL W k u,gj W v.name=some v
 | 0,_,_,v,hv=>by simp [goL] at hv
 | _+1,none,_,v,hv=>by simp [goL] at hv
 | k+1,some x,h,v,hv=>by
  simp only [goL,br] at hv;rcases hv with rfl | hv
  ·exact h _ rfl
  ·exact goL_found W k _ (fun y hy=>by rw [(nf hy).2]; exact hy) v hv
theorem zr {W:List UnitU} {k:Nat} {c:Str}:∀ v ∈ jc W k c,gj W v.name=some v:=goL_found W k _ fun y hy=>by rw [(nf hy).2]; exact hy
def endsU (W:List UnitU) (c:Str):Bool:=decide (2≤(jc W (W.length+1) c).length) && (decide ((jc W (W.length+1) c).length≤W.length) && decide (lastName (jc W (W.length+1) c)=objectT))
def ownU (W:List UnitU) (u:UnitU):Bool:=endsU W u.name && (u.fields.all (fieldR W) && (fieldsD [] u.fields && (u.meths.all (rightU W) && methsD [] u.meths)))
def nameU (u:UnitU):Bool:=ip u.name && !decide (u.super=sysT)
def evenU (W:List UnitU) (u:UnitU):Bool:=u.meths.all fun m=>(jc W (W.length+1) u.name).all (evenM m)
theorem unitU_eq (W:List UnitU) (u:UnitU):unitU W u=(nameU u && (ownU W u && evenU W u)):=by
 have h:u.meths.all (methodU W u)=(u.meths.all (rightU W) && evenU W u):=by
  unfold evenU;induction u.meths with
  | nil=>rfl
  | cons m r ih =>
   simp only [dv,ih,methodU_eq];cases rightU W m <;> cases (jc W (W.length+1) u.name).all (evenM m) <;> simp
 unfold unitU nameU ownU endsU;rw [zb3,methsU_eq,h];simp only [Bool.and_assoc]
 cases ip u.name <;> cases decide (u.super=sysT) <;> cases decide (2≤(jc W (W.length+1) u.name).length) <;> cases decide ((jc W (W.length+1) u.name).length≤W.length) <;> cases decide (lastName (jc W (W.length+1) u.name)=objectT) <;>
  cases u.fields.all (fieldR W) <;> cases fieldsD [] u.fields <;> cases u.meths.all (rightU W) <;> cases evenU W u <;> simp
theorem namesU_eq:∀ (A l:List UnitU),(A.map UnitU.name).Nodup→(namesU A l=true ↔ ((A++l).map UnitU.name).Nodup)
 | A,[],h=>by simp [namesU,h]
 | A,u :: r,h=>by
  have e:A++u :: r=(A++[u])++r:=by simp
  simp only [namesU,av,al];by_cases c:∀ x ∈ A,(!decide (u.name=x.name))=true
  ·have h2:((A++[u]).map UnitU.name).Nodup:=by rw [i7,List.nodup_append];refine ⟨h,by simp,fun a ha b hb=>?_⟩;obtain ⟨x,hx,rfl⟩:=ei.1 ha;simp only [cf,fm,d9] at hb;subst hb;have:=c x hx;intro e;simp [e] at this
   rw [e,← namesU_eq (A++[u]) r h2];exact ⟨fun h=>h.2,fun h=>⟨c,h⟩⟩
  ·refine ⟨fun h=>absurd h.1 c,fun hn=>absurd (fun x hx=>?_) c⟩;rw [i7,List.nodup_append] at hn;have:=hn.2.2 x.name (ei.2 ⟨x,hx,rfl⟩) u.name (by simp);simpa using fun e=>this e.symm
end Go.Abs.Zh

namespace Go.Abs.Zh
open Go.Abs.Zd
theorem uj:∀ {l:List UnitU} {S:List (Str × Str)},(supersS S l).isSome=true ↔ ((l.map UnitU.name).Nodup∧∀ u ∈ l,gd S u.name=none∧nameU u=true)
 | [],S=>by simp [supersS]
 | u :: l,S=>by
  simp only [supersS];by_cases c:superOk S u=true
  ·rw [if_pos c,uj];unfold superOk at c;simp only [av,gb,Option.isSome_eq_false_iff,Option.isNone_iff_eq_none] at c;obtain ⟨⟨c1,c2⟩,c3⟩:=c;have c4:nameU u=true:=by unfold nameU; rw [c2,c3]; rfl
   rw [cf,wd];refine ⟨fun ⟨h1,h2⟩=>⟨⟨fun hm=>?_,h1⟩,fun v hv=>?_⟩,fun ⟨h1,h2⟩=>⟨h1.2,fun v hv=>?_⟩⟩
   ·obtain ⟨v,hv,e⟩:=ei.1 hm;have:=(h2 v hv).1;rw [nw,e,c1] at this;simp [gd] at this
   ·rcases br.1 hv with rfl | hv
    ·exact ⟨c1,c4⟩
    ·have:=(h2 v hv).1;rw [nw] at this;refine ⟨?_,(h2 v hv).2⟩;cases hq:gd S v.name with
     | none=>rfl
     | some y=>rw [hq] at this; cases this
   ·obtain ⟨d1,d2⟩:=h2 v (bu _ hv);refine ⟨?_,d2⟩;rw [nw,d1,Option.none_or];simp only [gd];rw [if_neg fun e=>h1.1 (ei.2 ⟨v,hv,e.symm⟩)]
  ·rw [if_neg c];refine ⟨fun h=>(by cases h),fun h=>absurd ?_ c⟩;have h2:=h.2;obtain ⟨d1,d2⟩:=h2 u (bh ..);unfold nameU at d2;simp only [av] at d2;unfold superOk;rw [d1,d2.1,d2.2]; rfl
theorem endsS_eq {W:List UnitU} {o:UnitU} (h0:gj W []=none) (ho:gj W objectT=some o) (hs:o.super=[]) (c:Str):endsS (W.map supE) c=endsU W c:=by
 unfold endsS endsU;rw [gk,zb1,gk]
 have hlast:∀ L:List UnitU,(L.map UnitU.name).getLastD []=lastName L:=fun L=>by unfold lastName;rw [List.getLastD_eq_getLast?,List.getLast?_map]
 rw [hlast];by_cases hl:(jc W (W.length+1) c).length≤W.length
 ·have hl2:=zb2 hl;rw [hl2] at hl ⊢;have e:decide (1 < (jc W W.length c).length)=decide (2≤(jc W W.length c).length):=rfl;rw [e,decide_eq_true hl];cases decide (lastName (jc W W.length c)=objectT) <;> cases decide (2≤(jc W W.length c).length) <;> rfl
 ·rw [decide_eq_false hl,d8,Bool.and_false,Bool.and_eq_false_iff];refine .inl (decide_eq_false ?_);intro e;have hlen:(jc W (W.length+1) c).length=W.length+1:=by have:=xp W (W.length+1) (gj W c); unfold jc at hl ⊢; omega
  unfold lastName at e;cases hv:(jc W W.length c).getLast? with
  | none=>rw [hv] at e; exact absurd e (by decide)
  | some v =>
   rw [hv] at e;have e:v.name=objectT:=e;have hm:v ∈ jc W W.length c:=List.mem_of_getLast? hv;have hf:=zr v hm;rw [e,ho] at hf;have:=goL_last W W.length (gj W c) v hlen hv;rw [← dg hf,hs,h0] at this;cases this
theorem zq {W:List UnitU} (hends:∀ c,endsS (W.map supE) c=endsU W c):∀ {l:List UnitU} {F M:List (Key × Mem)},(l.map UnitU.name).Nodup→(∀ x ∈ M,∀ u ∈ l,x.1.1≠u.name) →
  membersS (W.map supE) F M l=if l.all (ownU W) then some (F++l.flatMap membF,M++l.flatMap membM) else none
 | [],F,M,_,_=>by simp [membersS]
 | u :: l,F,M,hn,hM=>by
  rw [cf,wd] at hn
  have hu:unitOk (W.map supE) M u=ownU W u:=by have h1:=zb4 W [] u.fields;have h2:=methsS_eq W u.name M (fun x hx=>hM x hx u (bh ..)) [] u.meths;simp only [fm,co] at h1 h2;unfold unitOk ownU;rw [hends,h1,h2];simp only [Bool.and_assoc]
  simp only [membersS,hu,dv];rcases bc (ownU W u) with c | c
  ·simp only [c,if_true,dh];rw [zq hends hn.2]
   ·simp only [ci,ba]; rfl
   ·intro x hx v hv e;rcases bp.1 hx with hx | hx
    ·exact hM x hx v (bu _ hv) e
    ·exact hn.1 (ei.2 ⟨v,hv,by rw [← e,memb_M u x hx]⟩)
  ·simp [c]
def keysU (l:List MethU):Prop:=l.Pairwise fun a c=>¬ (a.name=c.name∧a.desc=c.desc)
theorem uk:∀ (A l:List MethU),methsD A l=true→keysU A→keysU (A++l)
 | A,[],_,h=>by simpa using h
 | A,m :: r,hd,h=>by
  simp only [methsD,av,al] at hd;have e:A++m :: r=(A++[m])++r:=by simp
  rw [e];refine uk (A++[m]) r hd.2 ?_;unfold keysU;rw [List.pairwise_append];refine ⟨h,by simp,fun a ha c hc hh=>?_⟩;simp only [d9] at hc;subst hc;have:=hd.1 a ha;simp [hh.1,hh.2] at this
theorem even_eq {m:MethU}:∀ {l:List MethU},keysU l→(match (methAt l m.name m.desc).map MethU.st with | some y=>y == m.st | none=>true)=l.all fun x=>!oddM m x
 | [],_=>rfl
 | x :: l,h=>by
  have h:=List.pairwise_cons.1 h;have ih:=even_eq (m:=m) h.2;unfold methAt at ih ⊢;rw [List.find?_cons,dv];by_cases h1:x.name=m.name
  ·by_cases h2:x.desc=m.desc
   ·have hr:(l.all fun x=>!oddM m x)=true:=by
     rw [al];intro y hy;have:=h.1 y hy;unfold oddM;by_cases g1:y.name=m.name
     ·by_cases g2:y.desc=m.desc
      ·exact absurd ⟨h1.trans g1.symm,h2.trans g2.symm⟩ this
      ·simp [g2]
     ·simp [g1]
    rw [hr];unfold oddM;simp only [h1,h2,decide_true,Bool.and_self,bw,dh,Bool.not_not,Bool.and_true];cases x.st <;> cases m.st <;> rfl
   ·unfold oddM;simp only [h1,h2,decide_true,decide_false,Bool.and_false,d8,nj,dh];exact ih
  ·unfold oddM;simp only [h1,decide_false,d8,nj,dh];exact ih
theorem overS_eq {W:List UnitU} (hn:(W.map UnitU.name).Nodup) (hk:∀ v ∈ W,keysU v.meths) {u:UnitU} (hl:(jc W (W.length+1) u.name).length≤W.length):overS (W.map supE) (W.flatMap membM) u=evenU W u:=by
 unfold overS evenU;congr 1;funext m;unfold overM;rw [gk,zb1,zb2 hl];have hf:=zr (W:=W) (k:=W.length) (c:=u.name);generalize jc W W.length u.name=L at hf ⊢;induction L with
 | nil=>rfl
 | cons v L ih =>
  rw [cf,dv,dv,ih fun x hx=>hf x (bu _ hx)];congr 1;have hv:=hf v (bh ..);have:=even_eq (m:=m) (hk v (nf hv).1);unfold overOk evenM;rw [getM hn,hv,Option.bind_some];rw [← this];cases methAt v.meths m.name m.desc <;> rfl
theorem built_keys (m:Nat):∀ v ∈ builtU m,keysU v.meths:=by have:(builtU m).all (fun v=>methsD [] v.meths)=true:=rfl;intro v hv;exact uk [] _ (al.1 this v hv) List.Pairwise.nil
theorem isClass_nil:ip []=false:=by decide
theorem built_none (m:Nat):gj (builtU m) []=none:=rfl
theorem built_names (m:Nat):((builtU m).map UnitU.name).Nodup:=by have:(builtU m).map UnitU.name=[objectT,throwT,sysT]++faultsL:=rfl;rw [this]; decide
theorem all_unit (W:List UnitU):∀ l:List UnitU,l.all (unitU W)=(l.all nameU && (l.all (ownU W) && l.all (evenU W)))
 | []=>rfl
 | u :: r=>by simp only [dv,unitU_eq,all_unit W r];cases nameU u <;> cases ownU W u <;> cases evenU W u <;> cases r.all nameU <;> cases r.all (ownU W) <;> cases r.all (evenU W) <;> rfl
theorem worldS_eq (m:Nat) (l:List UnitU):worldS l=if worldU m l then some ((iy m l).map supE,(iy m l).flatMap membF,(iy m l).flatMap membM) else none:=by
 unfold worldS worldU;by_cases c1:l.length≤32
 ·rw [if_pos c1,decide_eq_true c1,dh];have hS:builtS++l.map supE=(iy m l).map supE:=by unfold iy; rw [i7,built_S]
  have hM:builtM++l.flatMap membM=(iy m l).flatMap membM:=by unfold iy; rw [jp,built_M]
  have hF:l.flatMap membF=(iy m l).flatMap membF:=by unfold iy; rw [jp,built_F]; rfl
  have hnames:namesU [] (iy m l)=true ↔ ((iy m l).map UnitU.name).Nodup:=namesU_eq [] _ (by simp)
  have hall:l.all (unitU (iy m l))=(l.all nameU && (l.all (ownU (iy m l)) && l.all (evenU (iy m l)))):=by exact all_unit _ l
  have hcat:((iy m l).map UnitU.name).Nodup ↔ ((l.map UnitU.name).Nodup∧∀ u ∈ l,gd builtS u.name=none):=by
   unfold iy;rw [i7,List.nodup_append,← built_S m];refine ⟨fun ⟨_,h2,h3⟩=>⟨h2,fun u hu=>?_⟩,fun ⟨h1,h2⟩=>⟨built_names m,h1,fun a ha b hb e=>?_⟩⟩
   ·rw [pv,z5,wa];exact fun v hv e=>h3 v.name (ei.2 ⟨v,hv,rfl⟩) u.name (ei.2 ⟨u,hu,rfl⟩) e
   ·obtain ⟨v,hv,rfl⟩:=ei.1 ha;obtain ⟨u,hu,rfl⟩:=ei.1 hb;have:=h2 u hu;rw [pv,z5,wa] at this;exact this v hv e
  rw [hall];by_cases c2:((iy m l).map UnitU.name).Nodup
  ·rw [hnames.2 c2,dh];rcases bc (l.all nameU) with c3 | c3
   ·have hsup:(supersS builtS l).isSome=true:=uj.2 ⟨(hcat.1 c2).1,fun u hu=>⟨(hcat.1 c2).2 u hu,al.1 c3 u hu⟩⟩;obtain ⟨S,hS1⟩:=Option.isSome_iff_exists.1 hsup;have hS2:=(vz hS1).1;rw [hS] at hS2;subst hS2;rw [hS1,c3,dh]
    have h0:gj (iy m l) []=none:=by
     unfold iy gj;rw [List.find?_append];have:=built_none m;unfold gj at this;rw [this,Option.none_or,List.find?_eq_none];intro u hu;have:=al.1 c3 u hu;unfold nameU at this;intro e;have e:u.name=[]:=by simpa using e
     rw [e,isClass_nil] at this;cases this
    have hends:=endsS_eq (W:=iy m l) (o:=plainU objectT []) h0 rfl rfl
    have hmem:=zq (F:=[]) (M:=builtM) hends (hcat.1 c2).1 (fun x hx u hu=>by have h1:=(hcat.1 c2).2 u hu;rw [← built_M m] at hx;obtain ⟨v,hv,hx⟩:=eu.1 hx;rw [memb_M v x hx];rw [← built_S m,pv,z5,wa] at h1;exact h1 v hv)
    simp only;rw [hmem,hM,bj,hF];rcases bc (l.all (ownU (iy m l))) with c4 | c4
    ·rw [c4,if_pos rfl,dh];simp only
     have hkeys:∀ v ∈ iy m l,keysU v.meths:=fun v hv=>by
      rcases bp.1 hv with hv | hv
      ·exact built_keys m v hv
      ·have:=al.1 c4 v hv;unfold ownU at this;simp only [av] at this;exact uk [] _ this.2.2.2.2 List.Pairwise.nil
     have hov:l.all (overS ((iy m l).map supE) ((iy m l).flatMap membM))=l.all (evenU (iy m l)):=by
      rw [md,al,al]
      have key:∀ u ∈ l,overS ((iy m l).map supE) ((iy m l).flatMap membM) u=evenU (iy m l) u:=fun u hu=>by have:=al.1 c4 u hu;unfold ownU endsU at this;simp only [av,decide_eq_true_eq] at this;exact overS_eq c2 hkeys this.1.2.1
      exact ⟨fun h u hu=>by rw [← key u hu]; exact h u hu,fun h u hu=>by rw [key u hu]; exact h u hu⟩
     rw [hov]
    ·rw [c4]; rfl
   ·have hsup:supersS builtS l=none:=by
     rw [← Option.not_isSome_iff_eq_none,uj];intro h;have:l.all nameU=true:=al.2 fun u hu=>(h.2 u hu).2
     rw [c3] at this; cases this
    rw [hsup,c3]; rfl
  ·have hsup:supersS builtS l=none:=by rw [← Option.not_isSome_iff_eq_none,uj];exact fun h=>c2 (hcat.2 ⟨h.1,fun u hu=>(h.2 u hu).1⟩)
   have hn:namesU [] (iy m l)=false:=by rw [← Bool.not_eq_true]; exact fun h=>c2 (hnames.1 h)
   rw [hsup,hn]; rfl
 ·rw [if_neg c1,decide_eq_false c1]; rfl
end Go.Abs.Zh

namespace Go.Abs.Zh
open Go.Abs.Zd
end Go.Abs.Zh

namespace Go.Abs
theorem uo {h:Heap} {n0:Nat}:∀ (fu:Nat) (l acc:List Nat),acc <+: reach h n0 fu l acc
 | 0,l,acc=>by unfold reach; exact List.prefix_refl _
 | _+1,[],acc=>by unfold reach; exact List.prefix_refl _
 | fu+1,i :: r,acc=>by
  unfold reach;split
  ·exact uo fu r acc
  ·split
   ·exact uo fu r acc
   ·exact (List.prefix_append acc [i]).trans (uo fu _ _)
theorem idxIn_pre {i:Nat}:∀ {k l:List Nat},k <+: l→i ∈ k→idxIn i l=idxIn i k
 | [],_,_,h=>by cases h
 | j :: k,l,hp,h=>by
  obtain ⟨t,rfl⟩:=hp;rw [bl];unfold idxIn;split
  ·rfl
  ·rename_i hne;have hm:i ∈ k:=(br.1 h).resolve_left fun e=>hne e.symm
   rw [idxIn_pre (List.prefix_append k t) hm]
theorem finish_first {h0 h:Heap} {v:AVal} (hv:v.under h0.size=false) (K:List Nat) (hK:K <+: reach h h0.size 1000 v.ids []) :
  (∃ w,dy h0 v h=(v,⟨h.objs,h.base,w⟩)∧(w=min h0.wmin h.wmin∨(w=h0.wmin∧h0.size≤h.wmin))) ∨
  (h0.size≤h.wmin∧∃ f I X,dy h0 v h=(v.ren f,⟨h0.objs++X,h0.base,h0.wmin⟩)∧Moves f I h0.size h.objs (h0.objs++X)∧(∀ j ∈ v.ids,h0.size≤j→I j)∧(∀ j ∈ K,I j∧f j=h0.size+idxIn j K)):=by
 unfold dy;by_cases hw:h.wmin < h0.size
 ·rw [if_pos hw]; exact .inl ⟨_,rfl,.inl rfl⟩
 ·rw [if_neg hw,hv];simp only [am,if_false];generalize hk:reach h h0.size 1000 v.ids []=k at hK;have hge:∀ i ∈ k,h0.size≤i:=by rw [← hk]; exact uh _ _ _ (by simp)
  split
  ·rename_i hok;refine .inr ⟨by omega,fun i=>if i < h0.size then i else h0.size+idxIn i k,fun i=>i ∈ k,_,rfl,⟨fun i obj hi ho=>?_,fun i obj hi ho j hj hn=>?_,fun i hi=>?_⟩,fun j hj hn=>?_,fun j hj=>?_⟩
   ·have h1:=hge i hi;obtain ⟨h2,h3⟩:=zbw hi;have h4:¬ i < h0.size:=by omega
    simp only [if_neg h4];have h5:h0.size=h0.objs.length:=rfl;rw [h5,ak (by omega),pg,cz,h3];have h6:h.get i=some obj:=ho;simp only [bw,h6,cq]
   ·rw [al] at hok;have h6:h.get i=some obj:=ho;have:=hok j (gx _ (eu.2 ⟨i,hi,by rw [h6]; exact hj⟩));simp only [ep,decide_eq_true_eq] at this;rcases this with h7 | h7
    ·omega
    ·simpa using h7
   ·show h0.size≤if i < h0.size then i else h0.size+idxIn i k
    rw [if_neg (by omega)]; omega
   ·rw [al] at hok;have:=hok j (fw _ hj);simp only [ep,decide_eq_true_eq] at this;rcases this with h7 | h7
    ·omega
    ·simpa using h7
   ·have hjk:j ∈ k:=hK.subset hj;have:=hge j hjk;refine ⟨hjk,?_⟩;show (if j < h0.size then j else h0.size+idxIn j k)=_;rw [if_neg (by omega),idxIn_pre hK hj]
  ·exact .inl ⟨_,rfl,.inr ⟨rfl,by omega⟩⟩
theorem ids_ents {κ ν:Type} {kf:κ→AVal} {vf:ν→AVal} (hk:∀ x,(kf x).ids=[]) (hv:∀ x,(vf x).ids=[]):∀ (A:List (κ × ν)) (i:Nat),((ents kf vf i A).flatMap fun (k,v,_)=>k.ids++v.ids)=[]
 | [],_=>rfl
 | (k,v) :: A,i=>by have ih:=ids_ents hk hv A (i+1);simp only [ents,ci,hk,hv,co,bj];exact ih
theorem we {κ ν:Type} {kf:κ→AVal} {vf:ν→AVal} (hk:∀ x,(kf x).ids=[]) (hv:∀ x,(vf x).ids=[]) (A:List (κ × ν)):(fo kf vf A).ids=[]:=ids_ents hk hv A 0
theorem ren_ents {κ ν:Type} {kf:κ→AVal} {vf:ν→AVal} {f:Nat→Nat} (hk:∀ x,(kf x).ren f=kf x) (hv:∀ x,(vf x).ren f=vf x):∀ (A:List (κ × ν)) (i:Nat),((ents kf vf i A).map fun (k,v,b)=>(k.ren f,v.ren f,b))=ents kf vf i A
 | [],_=>rfl
 | (k,v) :: A,i=>by have ih:=ren_ents hk hv A (i+1);simp only [ents,cf,hk,hv];rw [ih]
theorem wg {κ ν:Type} {kf:κ→AVal} {vf:ν→AVal} {f:Nat→Nat} (hk:∀ x,(kf x).ren f=kf x) (hv:∀ x,(vf x).ren f=vf x) (A:List (κ × ν)):(fo kf vf A).ren f=fo kf vf A:=by unfold fo;simp only [AObj.ren];rw [ren_ents hk hv]
namespace Zh
open Go.Abs.Zd
variable {O O':List AObj} {b w N:Nat} {S:List (Str × Str)} {F M:List (Key × Mem)} {V:List (Key × Bool)}
theorem zaf (x:Key):(keyF x).ids=[]:=by obtain ⟨a,b,c⟩:=x; simp [keyF,AVal.ids,AVal.idsL]
theorem memF_ids (x:Mem):(memF x).ids=[]:=by simp [memF,AVal.ids,AVal.idsL]
theorem zag (f:Nat→Nat) (x:Key):(keyF x).ren f=keyF x:=by obtain ⟨a,b,c⟩:=x; simp [keyF,AVal.ren,AVal.renL]
theorem memF_ren (f:Nat→Nat) (x:Mem):(memF x).ren f=memF x:=by simp [memF,AVal.ren,AVal.renL]
theorem str_ids (x:Str):(AVal.str x).ids=[]:=by simp [AVal.ids]
theorem str_ren (f:Nat→Nat) (x:Str):(AVal.str x).ren f = .str x:=by simp [AVal.ren]
theorem bool_ids (x:Bool):(AVal.bool x).ids=[]:=by simp [AVal.ids]
theorem bool_ren (f:Nat→Nat) (x:Bool):(AVal.bool x).ren f = .bool x:=by simp [AVal.ren]
theorem world_reach (h:World O N S F M V) {n:Nat} (hn:n≤N) (r:List Nat):[N,N+1,N+2,N+3,N+4] <+: reach ⟨O,b,w⟩ n 1000 (N :: r) []:=by
 have h0:(⟨O,b,w⟩:Heap).get N=_:=h.w0;have h1:(⟨O,b,w⟩:Heap).get (N+1)=_:=h.m1;have h2:(⟨O,b,w⟩:Heap).get (N+2)=_:=h.m2;have h3:(⟨O,b,w⟩:Heap).get (N+3)=_:=h.m3;have h4:(⟨O,b,w⟩:Heap).get (N+4)=_:=h.m4;have e1:=we str_ids str_ids S;have e2:=we zaf memF_ids F;have e3:=we zaf memF_ids M;have e4:=we zaf bool_ids V;have g0:¬ N < n:=by omega
 have g1:¬ N+1 < n:=by omega
 have g2:¬ N+2 < n:=by omega
 have g3:¬ N+3 < n:=by omega
 have g4:¬ N+4 < n:=by omega
 have s0:reach ⟨O,b,w⟩ n 1000 (N :: r) []=reach ⟨O,b,w⟩ n 995 r [N,N+1,N+2,N+3,N+4]:=by rw [reach,if_neg g0,if_neg (by simp),h0];simp only [bw,cq,AObj.ids,AVal.idsL,AVal.ids,bl,bj];rw [reach,if_neg g1,if_neg (by simp),h1];simp only [bw,cq,e1,bj,bl];rw [reach,if_neg g2,if_neg (by simp),h2];simp only [bw,cq,e2,bj,bl];rw [reach,if_neg g3,if_neg (by simp),h3];simp only [bw,cq,e3,bj,bl];rw [reach,if_neg g4,if_neg (by simp),h4];simp only [bw,cq,e4,bj,bl]
 rw [s0];exact uo _ _ _
theorem World.move (h:World O N S F M V) {f:Nat→Nat} {I:Nat→Prop} {n:Nat} (hm:Moves f I n O O') (hf:∀ j ∈ [N,N+1,N+2,N+3,N+4],I j∧f j=n+idxIn j [N,N+1,N+2,N+3,N+4]):World O' n S F M V:=by obtain ⟨i0,f0⟩:=hf N (by simp);obtain ⟨i1,f1⟩:=hf (N+1) (by simp);obtain ⟨i2,f2⟩:=hf (N+2) (by simp);obtain ⟨i3,f3⟩:=hf (N+3) (by simp);obtain ⟨i4,f4⟩:=hf (N+4) (by simp);simp [idxIn] at f0 f1 f2 f3 f4;have k0:=hm.at' _ _ i0 h.w0;have k1:=hm.at' _ _ i1 h.m1;have k2:=hm.at' _ _ i2 h.m2;have k3:=hm.at' _ _ i3 h.m3;have k4:=hm.at' _ _ i4 h.m4;rw [f0] at k0;rw [f1,wg (str_ren f) (str_ren f)] at k1;rw [f2,wg (zag f) (memF_ren f)] at k2;rw [f3,wg (zag f) (memF_ren f)] at k3;rw [f4,wg (zag f) (bool_ren f)] at k4;refine ⟨?_,k1,k2,k3,k4⟩;simpa [AObj.ren,AVal.renL,AVal.ren,f1,f2,f3,f4] using k0
end Zh
namespace Zt
open Go.Abs.Zd Go.Abs.Zh
open Go.Abs.Zo hiding T sub
variable {os O:List AObj} {b w:Nat}
theorem allU_over {n m:Nat} {l:List UnitU} (hm:n≤m) (hl:∀ u ∈ l,u.over n):∀ u ∈ iy m l,u.over n:=by
 have hn:over n none:=fun i o e=>by cases e
 have hp:∀ a b,(plainU a b).over n:=fun a b=>⟨hn,hn,fun m hm=>by cases hm⟩
 have hs:(sysU m).over n:=⟨hn,fun i o e=>by cases e; exact hm,fun x hx=>by obtain ⟨y,hy,rfl⟩:=ei.1 hx;exact ⟨hn,hn,hn,fun z hz=>by cases hz⟩⟩
 intro u hu;unfold iy at hu;rcases bp.1 hu with hu | hu
 ·unfold builtU at hu;rcases bp.1 hu with hu | hu
  ·simp only [built3,br,d7,or_false] at hu;rcases hu with rfl | rfl | rfl
   ·exact hp _ _
   ·exact hp _ _
   ·exact hs
  ·obtain ⟨y,hy,rfl⟩:=ei.1 hu;exact hp _ _
 ·exact hl u hu
theorem s240 {tb:List UInt8} {a:Option (Nat × Nat)} {c:Option Nat} (hR:Row O 1 n8 tb a) (hu:under O.length a) (ht:tb.length≤1000) (hb:b≤O.length) (w:Nat) :
  ∃ (N w':Nat) (P:List AObj) (W:List UnitU) (ra:Option (Nat × Nat)) (F M:List (Key × Mem)),O.length≤N∧Pre O P∧(O.length≤w→O.length≤w')∧Zh.World P N Zm.SM F M builtV∧Units P W ra∧W.map supE=Zm.SM ∧
   xCall T 240 [.slice a tb.length c] ⟨O,b,w⟩=some (.tuple [.ptr (some (N,0)),.slice ra W.length none,.bool true],⟨P,b,w'⟩):=by
 have hG:Zm.Good (O++[.cells 2 [.slice a tb.length c,.int .i64 0]]) O.length tb (.slice a tb.length c):=by refine ⟨⟨0,by rw [dp]; rfl,dt _,ht⟩,a,c,rfl,(Pre.app O _).row hR,fun i o e=>?_⟩;have:=hu i o e; omega
 obtain ⟨ua,uc,l,O1,w1,e1,hl,hRl,hok,hul,hS,hK,hw,hw2⟩:=Zm.s48o hG (b:=b) hb O.length;obtain ⟨F,M,hW⟩:=Zm.worldS_made hS;have hlen:=hK.len;simp only [aq,f7] at hlen
 have hPre:Pre O O1:=fun i o ho=>by have:=aj ho;exact hK.at' i o (by omega) (by rw [ag this]; exact ho)
 have h49:=fun w=>s49 (b:=b) (w:=w) (c:=uc) hRl (fun u hm=>(hok u hm).1) (by rw [hl]; decide) (by omega)
 rw [hl,hW] at h49;simp only [newV,newO] at h49;have hWo:=xi O1 Zm.SM F M builtV;have hP1:=wO_pre O1 Zm.SM F M builtV;generalize hO2:wO O1 Zm.SM F M builtV=O2 at *;have hl2:O2.length=O1.length+5:=by rw [← hO2]; simp [wO]
 have h107:=fun w=>s107 (O:=O2) (b:=b) (w:=w) (c:=uc) (hP1.row hRl) (by rw [hl]; decide) (fun u hu=>⟨(hok u hu).1.pre hP1,(hok u hu).2.1.cap⟩) (by omega)
 have hwu:worldU (O2.length+1) l=true:=by
  have:=worldS_eq (O2.length+1) l;rw [hW] at this;split at this
  ·assumption
  ·cases this
 have hsup:(iy (O2.length+1) l).map supE=Zm.SM:=by have:=worldS_eq (O2.length+1) l;rw [hW,hwu] at this;simp only [if_true,bt,eg] at this;exact this.1.symm
 rw [hwu,hl] at h107;simp only [if_true] at h107;have hU:=xl (O:=O2) (l:=l) (by rw [hl]; decide) (fun u hu=>(hok u hu).1.pre hP1);have hlU:(iy (O2.length+1) l).length=13:=by rw [zby,hl]
 have hover:∀ u ∈ iy (O2.length+1) l,u.over O.length:=allU_over (by omega) fun u hu=>by have:=(hok u hu).2.2;exact ⟨fun i o e=>by have:=this.f i o e; simp only [aq] at this; omega,fun i o e=>by have:=this.m i o e; simp only [aq] at this; omega,fun m hm=>⟨fun i o e=>by have:=(this.ms m hm).c i o e; simp only [aq] at this; omega,fun i o e=>by have:=(this.ms m hm).t i o e; simp only [aq] at this; omega,fun i o e=>by have:=(this.ms m hm).x i o e; simp only [aq] at this; omega,fun x hx=>⟨fun i o e=>by have:=((this.ms m hm).xs x hx).l i o e; simp only [aq] at this; omega,fun i o e=>by have:=((this.ms m hm).xs x hx).s i o e; simp only [aq] at this; omega⟩⟩⟩
 have hWo2:Zh.World (worldO O2 l) O1.length Zm.SM F M builtV:=hWo.app _;have hlw:O2.length < (worldO O2 l).length:=by unfold worldO; simp
 have hPreO:Pre O (worldO O2 l):=(hPre.trans hP1).trans (Pre.app _ _);have e48:=fh Zt.sub (fh Zo.sub e1);have e49:=fun w=>fh subT (h49 w)
 have e107:=fun w=>fh subT (h107 w)
 generalize hOw:worldO O2 l=Ow at *;generalize iy (O2.length+1) l=W at *
 have hv:(AVal.tuple [.ptr (some (O1.length,0)),.slice (some (O2.length,0)) 13 none,.bool true]).under (⟨O,b,w⟩:Heap).size=false:=by
  have:¬ O1.length < O.length:=by omega
  simp [AVal.under,AVal.unders,Heap.size,this]
 have hids:(AVal.tuple [.ptr (some (O1.length,0)),.slice (some (O2.length,0)) 13 none,.bool true]).ids=[O1.length,O2.length]:=by simp [AVal.ids,AVal.idsL]
 have hK1:[O1.length,O1.length+1,O1.length+2,O1.length+3,O1.length+4] <+: reach ⟨Ow,b,w1⟩ (⟨O,b,w⟩:Heap).size 1000 (AVal.tuple [.ptr (some (O1.length,0)),.slice (some (O2.length,0)) 13 none,.bool true]).ids []:=by rw [hids];exact world_reach hWo2 (by show O.length≤_; omega) _
 have hrun:xCall T 240 [.slice a tb.length c] ⟨O,b,w⟩=some (dy ⟨O,b,w⟩ (.tuple [.ptr (some (O1.length,0)),.slice (some (O2.length,0)) 13 none,.bool true]) ⟨Ow,b,w1⟩):=by simp (disch:=omega) [-getElem?_pos,-getElem?_neg,-List.all_eq_true,gz,gs,nltT,nltF,iltT,iltF,ileT,nleT,de,-dy,au t240,code240,e48,e49,e107,hlU]
 rw [hrun];rcases finish_first (h:=⟨Ow,b,w1⟩) hv _ hK1 with ⟨w',h1,h2⟩ | ⟨h1,f,I,X,h2,h3,h4,h5⟩
 ·refine ⟨O1.length,w',Ow,W,some (O2.length,0),F,M,by omega,hPreO,fun hh=>?_,hWo2,hU,hsup,by rw [h1,hlU]⟩;rcases h2 with h2 | ⟨h2,_⟩
  ·simp only at h2; omega
  ·simp only at h2; omega
 ·have hin:inI I (some (O2.length,0)):=fun i o e=>by simp only [bt,eg] at e;rw [← e.1]; exact h4 _ (by rw [hids]; simp) (by show O.length≤_; omega)
  have hR2:=h3.row (F':=UnitU.cells) (g:=UnitU.ren f) hU.r hin fun u=>ren_unitU u
  have hf0:f O1.length=O.length:=by have:=(h5 O1.length (by simp)).2;simpa [idxIn,Heap.size] using this
  refine ⟨O.length,w,O++X,W.map (UnitU.ren f),renA f (some (O2.length,0)),F,M,ai _,Pre.app _ _,id,hWo2.move h3 h5,⟨hR2,by rw [gk]; exact hU.n,fun u hm=>?_⟩,?_,?_⟩
  ·obtain ⟨v,hv,rfl⟩:=ei.1 hm;exact (hU.ok v hv).move h3 (hover v hv) (h3.ids hU.r hin hv)
  ·rw [List.map_map,← hsup];rfl
  ·rw [h2,gk,hlU];simp [AVal.ren,AVal.renL,hf0,renA]
end Zt
end Go.Abs

namespace Go.Abs.Zt
open Go.Abs.Zd Go.Abs.Zh
open Go.Abs.Zo hiding T sub
variable {os O:List AObj} {b w:Nat} {N:Nat} {S:List (Str × Str)} {F M:List (Key × Mem)} {V:List (Key × Bool)}
section
variable {f:FrU}
theorem s243 {h:Heap}:xCall T 243 [] h=some (.bool true,h):=closed_run (f:=code243) t243 rfl 60 rfl rfl (h':=⟨[],0,0⟩) (by kernel_rfl) h
end
end Go.Abs.Zt

namespace Go.Abs
open Go.Abs.Zd
section
variable {os:List AObj} {b w:Nat} {d:Dat} {cs:List AVal}
theorem has_byte (h:Has ⟨os,b,w⟩ (.int .u8) d cs):∃ x:UInt8,cs=n8 x∧True:=by
 obtain ⟨n,_,rfl,h1,h2⟩:=h.int;have e1:IntKind.u8.min=0:=rfl;have e2:IntKind.u8.max=255:=rfl;rw [e1] at h1;rw [e2] at h2;refine ⟨UInt8.ofNat n.toNat,?_,trivial⟩;unfold n8
 have:((UInt8.ofNat n.toNat).toNat:Int)=n:=by rw [UInt8.toNat_ofNat'];have:n.toNat % 2 ^ 8=n.toNat:=Nat.mod_eq_of_lt (by omega);rw [this]; omega
 rw [this]
theorem has_bytes (hb:b≤os.length) (h:Has ⟨os,b,w⟩ (.slice (.int .u8)) d cs):∃ (a:Option (Nat × Nat)) (L:List UInt8) (c:Option Nat),cs=[.slice a L.length c]∧Row os 1 n8 L a∧L.length≤gt∧under os.length a:=by
 obtain ⟨a,L,c,h1,h2,h3,_,h5,_⟩:=h.row fun d c h=>has_byte h
 exact ⟨a,L,c,h1,h2,h3,zbu h5 hb⟩
end
end Go.Abs

namespace Go.Abs.Zt
variable {os:List AObj} {b w:Nat} {d:Dat} {cs:List AVal}
def shFrame:Sh:=.struct [.slice .str,.slice .str]
theorem has_frame (hb:b≤os.length) (h:Has ⟨os,b,w⟩ shFrame d cs):∃ f:FrU,cs=f.cells∧f.ok os∧f.low os.length:=by
 obtain ⟨l,rfl,h⟩:=h.struct;obtain ⟨_,_,_,_,rfl,rfl,h2,h⟩:=h.cons;obtain ⟨_,_,_,_,rfl,rfl,h3,h⟩:=h.cons;obtain ⟨rfl,rfl⟩:=h.nil;obtain ⟨la,L,lc,rfl,hL,hLn,hLs,hLu,_⟩:=h2.row fun d c h=>has_strC h
 obtain ⟨sa,S,sc,rfl,hS,hSn,hSs,hSu,_⟩:=h3.row fun d c h=>has_strC h
 exact ⟨⟨L,la,lc,S,sa,sc⟩,rfl,⟨⟨hL,hLn,fun t ht=>big_of (hLs t ht)⟩,⟨hS,hSn,fun t ht=>big_of (hSs t ht)⟩⟩,⟨zbu hLu hb,zbu hSu hb⟩⟩
end Go.Abs.Zt

namespace Go.Abs.AbsTyb
open Go.Abs.Short
-- base: Zt
def code43L0:ACode :=
 .live [3,6,7,8] (S (R [3,6,7,8,9] [o 9 (Bt .lss 8 7)])
 (S (.after (.cond (t 9) (.skip) (.live [3] (.exit 0))) [3,6,7,8])
 (S (.after (.block 1 (S (R [3,5,6,7,8] [o 10 (.iaddr 1 (t 6) (t 8)),o 11 (Lq 10),v 5 11])
 (S (R [3,6,7,8,12] [v 12 5])
 (.after (.block 2 (S (R [3,6,7,8,12,15] [o 16 (.bin .eql (t 12) (Ks [86])),v 15 16])
 (.after (.cond (t 15) (.skip) (S (R [3,6,7,8,17] [o 18 (.bin .eql (t 12) (Ks [74])),v 17 18])
 (.after (.cond (t 17) (R [3,6,7,8] [v 19 3,o 20 (Bn .add 19 2),v 3 20]) (R [3,6,7,8] [v 13 3,o 14 (Bn .add 13 1),v 3 14])) [3,6,7,8]))) [3,6,7,8]))) [3,6,7,8])))) [3,6,7,8])
 (R [3,6,7,8] [o 21 (Bn .add 8 1),v 8 21]))))
def code43:AFunc:=⟨false,false,1,23,[.tmp 2],
 S (R [0] [o 2 (.val (n 0))])
 (S (R [0,3] [o 3 (.val (n 0))])
 (S (S (R [3,6,7,8] [v 6 0,o 7 (Sl 6),o 8 (.val (n 0))])
 (.after (.block 0 (.loop code43L0)) [3]))
 (S (R [2] [v 22 3,v 2 22])
 (Z [2])))),none⟩
def code251:AFunc:=⟨false,false,4,34,[.tmp 8,.tmp 9],
 S (R [0,2,3,5] [o 5 (.lbox (t 1)),o 8 (.val (Ks [])),o 9 (.val F)])
 (S (S (R [2,5,28] [v 10 2,o 11 (Bn .lss 10 0),v 12 11,g 13 12 false (Vl 2),g 14 12 false (Fa 5 0),g 15 12 false (Lq 14),g 16 12 false (Sl 15),g 17 12 false (Bt .geq 13 16),o 18 (.pick (t 12) Y (t 17)),v 19 18,g 20 19 false (Vl 0),g 21 19 false (Fa 5 0),g 22 19 false (Lq 21),g 23 19 false (Vl 2),g 24 19 false (.slice (.sl 1) (t 22) (some (t 23)) none none),g 25 19 false (Vl 3),g 26 19 false (.callg 276 [t 20,t 24,t 25]),g 27 19 false (.un .not (t 26)),o 28 (.pick (t 19) Y (t 27))])
 (.after (.cond (t 28) (S (R [8,9] [o 8 (.val (Ks [])),o 9 (.val F)])
 (Z [8,9])) (.skip)) [2,5]))
 (S (R [8,9] [o 29 (Fa 5 0),o 30 (Lq 29),v 31 2,o 32 (.iaddr 1 (t 30) (t 31)),o 33 (Lq 32),v 8 33,o 9 (.val Y)])
 (Z [8,9]))),none⟩
def code252:AFunc:=⟨false,false,3,85,[.cell 6 (some 2),.tmp 7],
 S (R [1,2,3,6] [o 3 (.lbox (t 0)),o 6 (.alloc 2 [.slice none 0 (some 0),.slice none 0 (some 0)]),o 7 (.val F)])
 (S (R [1,3,6,8] [v 11 2,o 12 (.mkslice 1 1 [.str []] [(0,1,t 11)]),o 13 (.callg 100260 [t 12]),v 8 13])
 (S (S (R [1,3,6,8,32] [v 14 1,o 15 (Bn .lss 14 0),v 16 15,g 17 16 false (Vl 1),g 18 16 false (Fa 3 0),g 19 16 false (Lq 18),g 20 16 false (Sl 19),g 21 16 false (Bt .gtr 17 20),o 22 (.pick (t 16) Y (t 21)),v 23 22,g 24 23 false (Vl 8),g 25 23 false (Sl 24),g 26 23 false (Fa 3 0),g 27 23 false (Lq 26),g 28 23 false (Sl 27),g 29 23 false (Vl 1),g 30 23 false (Bt .sub 28 29),g 31 23 false (Bt .gtr 25 30),o 32 (.pick (t 23) Y (t 31))])
 (.after (.cond (t 32) (S (R [6,7] [o 33 (.build [.slice none 0 (some 0),.slice none 0 (some 0)] []),u (.store 2 (t 6) (t 33)),o 7 (.val F)])
 (Z [6,7])) (.skip)) [1,3,6,8]))
 (S (.after (.region [⟨true,[0,1,3,0,8,31,63,0],[o 34 (Fa 3 0),o 35 (Lq 34),o 36 (.callg 100273 [t 35]),o 37 (Fa 3 1),o 38 (Lq 37),o 39 (.callg 100273 [t 38]),o 40 (.build [.slice none 0 (some 0),.slice none 0 (some 0)] [(0,1,t 36),(1,1,t 39)]),o 9 (.alloc 2 [.slice none 0 (some 0),.slice none 0 (some 0)])]⟩,⟨false,[],[u (.store 2 (t 9) (t 40))]⟩]) [1,6,8,9])
 (S (S (R [1,6,8,9,10] [v 41 1,v 42 8,o 43 (Sl 42),o 44 (Bt .add 41 43),v 10 44])
 (S (R [1,6,8,9,10,58] [o 45 (Fa 9 0),o 46 (Lq 45),v 47 10,o 48 (Bn .sub 47 1),o 49 (.iaddr 1 (t 46) (t 48)),o 50 (Lq 49),o 51 (.bin .eql (t 50) (Ks [74])),v 52 51,g 53 52 true (Vl 10),g 54 52 true (Fa 9 0),g 55 52 true (Lq 54),g 56 52 true (Sl 55),g 57 52 true (Bt .lss 53 56),o 58 (.pick (t 52) (t 57) F)])
 (.after (.cond (t 58) (R [1,6,8,9] [o 59 (Fa 9 0),o 60 (Lq 59),v 61 10,o 62 (.iaddr 1 (t 60) (t 61)),u (.store 1 (t 62) (Ks [84]))]) (.skip)) [1,6,8,9])))
 (S (S (R [1,6,8,9,72] [v 63 1,o 64 (Bn .gtr 63 0),v 65 64,g 66 65 true (Fa 9 0),g 67 65 true (Lq 66),g 68 65 true (Vl 1),g 69 65 true (.iaddr 1 (t 67) (t 68)),g 70 65 true (Lq 69),g 71 65 true (.bin .eql (t 70) (Ks [45])),o 72 (.pick (t 65) (t 71) F)])
 (.after (.cond (t 72) (R [1,6,8,9] [o 73 (Fa 9 0),o 74 (Lq 73),v 75 1,o 76 (Bn .sub 75 1),o 77 (.iaddr 1 (t 74) (t 76)),u (.store 1 (t 77) (Ks [84]))]) (.skip)) [1,6,8,9]))
 (S (R [6,9] [o 78 (Fa 9 0),o 79 (Lq 78),v 80 1,o 81 (.slice (.sl 1) (t 79) (some (t 80)) none none),v 82 8,o 83 (.ext (.copy 1) [t 81,t 82])])
 (S (R [6,7] [o 84 (.load (some 2) (t 9)),u (.store 2 (t 6) (t 84)),o 7 (.val Y)])
 (Z [6,7])))))))),none⟩
def code253:AFunc:=⟨false,false,3,54,[.cell 6 (some 2),.tmp 7,.tmp 8],
 S (R [0,2,4,6] [o 4 (.lbox (t 1)),o 6 (.alloc 2 [.slice none 0 (some 0),.slice none 0 (some 0)]),o 7 (.val (Ks [])),o 8 (.val F)])
 (S (.after (.region [⟨true,[0,1,3,0,8,24],[o 10 (Fa 4 1),o 11 (Lq 10),o 12 (Sl 11),v 13 2,o 14 (.mkslice 1 1 [.str []] [(0,1,t 13)]),o 15 (.callg 43 [t 14])]⟩,⟨false,[],[o 16 (Bt .sub 12 15),v 9 16]⟩]) [0,2,4,6,9])
 (S (S (R [0,2,4,6,9,32] [v 17 2,o 18 (.bin .eql (t 17) (Ks [86])),v 19 18,g 20 19 false (Vl 9),g 21 19 false (Bn .lss 20 0),o 22 (.pick (t 19) Y (t 21)),v 23 22,g 24 23 false (Vl 0),g 25 23 false (Fa 4 1),g 26 23 false (Lq 25),g 27 23 false (Vl 9),g 28 23 false (.slice (.sl 1) (t 26) (some (t 27)) none none),g 29 23 false (Vl 2),g 30 23 false (.callg 276 [t 24,t 28,t 29]),g 31 23 false (.un .not (t 30)),o 32 (.pick (t 23) Y (t 31))])
 (.after (.cond (t 32) (S (R [6,7,8] [v 33 0,o 34 (.load (some 2) (t 4)),v 35 2,o 36 (.callg 275 [t 33,t 34,t 35]),o 37 (Xt 36 0),o 38 (Xt 36 1),o 39 (Xt 36 2),u (.store 2 (t 6) (t 37)),v 7 38,v 8 39])
 (Z [6,7,8])) (.skip)) [4,6,9]))
 (S (.after (.region [⟨true,[0,1,3,0,8,0,56,127,255,0,512,0,3584,7680,511],[o 40 (Fa 4 0),o 41 (Lq 40),o 42 (.callg 100273 [t 41]),o 43 (Fa 4 1),o 44 (Lq 43),v 45 9,o 46 (.slice (.sl 1) (t 44) none (some (t 45)) none),o 47 (.callg 100273 [t 46]),o 48 (.build [.slice none 0 (some 0),.slice none 0 (some 0)] [(0,1,t 42),(1,1,t 47)]),o 49 (Fa 4 1),o 50 (Lq 49),v 51 9,o 52 (.iaddr 1 (t 50) (t 51)),o 53 (Lq 52),u (.ext (.hstore 2) [t 6,t 48])]⟩,⟨false,[],[v 7 53,o 8 (.val Y)]⟩]) [6,7,8])
 (Z [6,7,8])))),none⟩
def code255:AFunc:=⟨false,false,4,144,[.tmp 8],
 S (R [0,2,3,5] [o 5 (.lbox (t 1)),o 8 (.val F)])
 (S (S (R [0,2,3,5,22] [o 21 (.callg 243 []),o 22 (.un .not (t 21))])
 (.after (.cond (t 22) (S (R [8] [o 8 (.val F)])
 (Z [8])) (.skip)) [0,2,3,5]))
 (S (S (R [0,2,3,5,51] [v 23 0,o 24 (Sl 23),o 25 (Bn .gtr 24 100),v 26 25,g 27 26 false (.load (some 2) (t 5)),g 28 26 false (.callg 242 [t 27]),g 29 26 false (.un .not (t 28)),o 30 (.pick (t 26) Y (t 29)),v 31 30,g 32 31 false (Vl 3),g 33 31 false (.callg 158 [t 32]),g 34 31 false (.un .not (t 33)),g 35 31 false (Vl 34),g 36 35 true (Vl 3),g 37 35 true (.bin .neq (t 36) (Ks [76,65,59])),g 38 31 false (.pick (t 35) (t 37) F),g 39 31 false (Vl 38),g 40 39 true (Vl 3),g 41 39 true (.bin .neq (t 40) (Ks [91,73])),g 42 31 false (.pick (t 39) (t 41) F),g 43 31 false (Vl 42),g 44 43 true (Vl 3),g 45 43 true (.bin .neq (t 44) (Ks [76,66,59])),g 46 31 false (.pick (t 43) (t 45) F),g 47 31 false (Vl 46),g 48 47 true (Vl 3),g 49 47 true (.bin .neq (t 48) (Ks [91,76,66,59])),g 50 31 false (.pick (t 47) (t 49) F),o 51 (.pick (t 31) Y (t 50))])
 (.after (.cond (t 51) (S (R [8] [o 8 (.val Y)])
 (Z [8])) (.skip)) [0,2,3,5]))
 (S (R [2,3,5,9,11] [v 53 0,o 54 (.callg 240 [t 53]),v 52 54,o 55 (Xt 52 0),o 56 (Xt 52 1),o 57 (Xt 52 2),v 9 55,v 10 56,v 11 57])
 (S (S (R [2,3,5,9,11,83] [v 58 3,o 59 (.bin .neq (t 58) (Ks [73])),v 60 59,g 61 60 true (Vl 3),g 62 60 true (.bin .neq (t 61) (Ks [74])),o 63 (.pick (t 60) (t 62) F),v 64 63,g 65 64 true (Vl 3),g 66 64 true (.bin .neq (t 65) (Ks [78])),o 67 (.pick (t 64) (t 66) F),v 68 67,g 69 68 true (Vl 3),g 70 68 true (.bin .neq (t 69) (Ks [76,65,59])),o 71 (.pick (t 68) (t 70) F),v 72 71,g 73 72 true (Vl 3),g 74 72 true (.bin .neq (t 73) (Ks [91,73])),o 75 (.pick (t 72) (t 74) F),v 76 75,g 77 76 true (Vl 3),g 78 76 true (.bin .neq (t 77) (Ks [76,66,59])),o 79 (.pick (t 76) (t 78) F),v 80 79,g 81 80 true (Vl 3),g 82 80 true (.bin .neq (t 81) (Ks [91,76,66,59])),o 83 (.pick (t 80) (t 82) F)])
 (.after (.cond (t 83) (S (R [8] [o 8 (.val Y)])
 (Z [8])) (.skip)) [2,3,5,9,11]))
 (S (R [2,3,5,9,11,12,13] [o 85 (.load (some 2) (t 5)),v 86 3,o 87 (.callg 254 [t 85,t 86,n 1000]),v 84 87,o 88 (Xt 84 0),o 89 (Xt 84 1),o 12 (.lalloc [.slice none 0 (some 0),.slice none 0 (some 0)]),u (.store 2 (t 12) (t 88)),v 13 89])
 (S (R [2,3,5,9,11,13,14,15,16] [v 91 9,o 92 (.load (some 2) (t 12)),v 93 3,o 94 (.callg 253 [t 91,t 92,t 93]),v 90 94,o 95 (Xt 90 0),o 96 (Xt 90 1),o 97 (Xt 90 2),o 14 (.lalloc [.slice none 0 (some 0),.slice none 0 (some 0)]),u (.store 2 (t 14) (t 95)),v 15 96,v 16 97])
 (S (S (R [2,3,5,9,118] [v 98 11,o 99 (.un .not (t 98)),v 100 99,g 101 100 false (Vl 13),g 102 100 false (.un .not (t 101)),o 103 (.pick (t 100) Y (t 102)),v 104 103,g 105 104 false (Vl 16),g 106 104 false (.un .not (t 105)),o 107 (.pick (t 104) Y (t 106)),v 108 107,g 109 108 false (Vl 15),g 110 108 false (Vl 3),g 111 108 false (Bt .neq 109 110),o 112 (.pick (t 108) Y (t 111)),v 113 112,g 114 113 false (.load (some 2) (t 14)),g 115 113 false (.load (some 2) (t 5)),g 116 113 false (.callg 235 [t 114,t 115]),g 117 113 false (.un .not (t 116)),o 118 (.pick (t 113) Y (t 117))])
 (.after (.cond (t 118) (S (R [8] [o 8 (.val F)])
 (Z [8])) (.skip)) [2,3,5,9]))
 (S (R [2,3,9,17,18] [o 120 (.load (some 2) (t 5)),v 121 2,v 122 3,o 123 (.callg 252 [t 120,t 121,t 122]),v 119 123,o 124 (Xt 119 0),o 125 (Xt 119 1),o 17 (.lalloc [.slice none 0 (some 0),.slice none 0 (some 0)]),u (.store 2 (t 17) (t 124)),v 18 125])
 (S (R [3,18,19,20] [v 127 9,o 128 (.load (some 2) (t 17)),v 129 2,v 130 3,o 131 (.callg 251 [t 127,t 128,t 129,t 130]),v 126 131,o 132 (Xt 126 0),o 133 (Xt 126 1),v 19 132,v 20 133])
 (S (R [8] [v 134 18,o 135 (.un .not (t 134)),v 136 135,g 137 136 false (Vl 20),g 138 136 false (Vl 137),g 139 138 true (Vl 19),g 140 138 true (Vl 3),g 141 138 true (Bt .eql 139 140),g 142 136 false (.pick (t 138) (t 141) F),o 143 (.pick (t 136) Y (t 142)),v 8 143])
 (Z [8]))))))))))),none⟩
def code275:AFunc:=⟨false,false,3,45,[.cell 6 (some 2),.tmp 7,.tmp 8],
 S (R [0,2,4,6] [o 4 (.lbox (t 1)),o 6 (.alloc 2 [.slice none 0 (some 0),.slice none 0 (some 0)]),o 7 (.val (Ks [])),o 8 (.val F)])
 (S (R [0,2,4,6,9] [o 10 (Fa 4 1),o 11 (Lq 10),o 12 (Sl 11),o 13 (Bn .sub 12 1),v 9 13])
 (S (S (R [4,6,9,29] [v 14 2,o 15 (.bin .neq (t 14) (Ks [86])),v 16 15,g 17 16 false (Vl 9),g 18 16 false (Bn .lss 17 0),o 19 (.pick (t 16) Y (t 18)),v 20 19,g 21 20 false (Vl 0),g 22 20 false (Fa 4 1),g 23 20 false (Lq 22),g 24 20 false (Vl 9),g 25 20 false (.slice (.sl 1) (t 23) (some (t 24)) none none),g 26 20 false (Vl 2),g 27 20 false (.callg 276 [t 21,t 25,t 26]),g 28 20 false (.un .not (t 27)),o 29 (.pick (t 20) Y (t 28))])
 (.after (.cond (t 29) (S (R [6,7,8] [o 30 (.build [.slice none 0 (some 0),.slice none 0 (some 0)] []),u (.store 2 (t 6) (t 30)),o 7 (.val (Ks [])),o 8 (.val F)])
 (Z [6,7,8])) (.skip)) [4,6,9]))
 (S (.after (.region [⟨true,[0,1,3,0,8,0,56,127,255,0,512,0,3584,7680,511],[o 31 (Fa 4 0),o 32 (Lq 31),o 33 (.callg 100273 [t 32]),o 34 (Fa 4 1),o 35 (Lq 34),v 36 9,o 37 (.slice (.sl 1) (t 35) none (some (t 36)) none),o 38 (.callg 100273 [t 37]),o 39 (.build [.slice none 0 (some 0),.slice none 0 (some 0)] [(0,1,t 33),(1,1,t 38)]),o 40 (Fa 4 1),o 41 (Lq 40),v 42 9,o 43 (.iaddr 1 (t 41) (t 42)),o 44 (Lq 43),u (.ext (.hstore 2) [t 6,t 39])]⟩,⟨false,[],[v 7 44,o 8 (.val Y)]⟩]) [6,7,8])
 (Z [6,7,8])))),none⟩
def code276:AFunc:=⟨false,false,3,76,[.tmp 6],
 S (R [0,1,2] [o 6 (.val F)])
 (S (S (R [0,1,2,9] [v 7 1,o 8 (Sl 7),o 9 (Bn .eql 8 0)])
 (.after (.cond (t 9) (S (R [6] [o 6 (.val F)])
 (Z [6])) (.skip)) [0,1,2]))
 (S (S (R [0,1,2,10] [v 10 2])
 (.after (.block 0 (S (R [0,1,2,10,11] [o 12 (.bin .eql (t 10) (Ks [65])),v 11 12])
 (.after (.cond (t 11) (S (R [6] [v 13 1,o 14 (.iaddr 1 (t 13) (n 0)),o 15 (Lq 14),o 16 (.bin .eql (t 15) (Ks [78])),v 17 16,g 18 17 false (Vl 1),g 19 17 false (.iaddr 1 (t 18) (n 0)),g 20 17 false (Lq 19),g 21 17 false (.callg 30 [t 20]),o 22 (.pick (t 17) Y (t 21)),v 6 22])
 (Z [6])) (S (R [0,1,2,10,23] [o 24 (.bin .eql (t 10) (Ks [49])),v 23 24])
 (.after (.cond (t 23) (S (R [6] [v 25 1,o 26 (.iaddr 1 (t 25) (n 0)),o 27 (Lq 26),o 28 (.bin .neq (t 27) (Ks [84])),v 29 28,g 30 29 true (Vl 1),g 31 29 true (.iaddr 1 (t 30) (n 0)),g 32 29 true (Lq 31),g 33 29 true (.bin .neq (t 32) (Ks [74])),o 34 (.pick (t 29) (t 33) F),v 35 34,g 36 35 true (Vl 1),g 37 35 true (.iaddr 1 (t 36) (n 0)),g 38 35 true (Lq 37),g 39 35 true (.bin .neq (t 38) (Ks [45])),o 40 (.pick (t 35) (t 39) F),v 6 40])
 (Z [6])) (S (R [0,1,2,41] [o 42 (.bin .eql (t 10) (Ks [74])),v 41 42])
 (.after (.cond (t 41) (S (R [6] [v 43 1,o 44 (Sl 43),o 45 (Bn .gtr 44 1),v 46 45,g 47 46 true (Vl 1),g 48 46 true (.iaddr 1 (t 47) (n 0)),g 49 46 true (Lq 48),g 50 46 true (.bin .eql (t 49) (Ks [74])),o 51 (.pick (t 46) (t 50) F),v 52 51,g 53 52 true (Vl 1),g 54 52 true (.iaddr 1 (t 53) (n 1)),g 55 52 true (Lq 54),g 56 52 true (.bin .eql (t 55) (Ks [45])),o 57 (.pick (t 52) (t 56) F),v 6 57])
 (Z [6])) (.skip)) [0,1,2]))) [0,1,2]))) [0,1,2]))) [0,1,2]))
 (S (R [6] [v 58 1,o 59 (.iaddr 1 (t 58) (n 0)),o 60 (Lq 59),o 61 (.bin .neq (t 60) (Ks [84])),v 62 61,g 63 62 true (Vl 1),g 64 62 true (.iaddr 1 (t 63) (n 0)),g 65 62 true (Lq 64),g 66 62 true (.bin .neq (t 65) (Ks [45])),o 67 (.pick (t 62) (t 66) F),v 68 67,g 69 68 true (Vl 0),g 70 68 true (Vl 1),g 71 68 true (.iaddr 1 (t 70) (n 0)),g 72 68 true (Lq 71),g 73 68 true (Vl 2),g 74 68 true (.callg 247 [t 69,t 72,t 73]),o 75 (.pick (t 68) (t 74) F),v 6 75])
 (Z [6])))),none⟩
def T:Nat→Option AFunc:=fun g=>match Zt.T g with
 | some f=>some f
 | none=>List.lookup g [(43,code43),(251,code251),(252,code252),(253,code253),(255,code255),(275,code275),(276,code276)]
theorem sub:∀ g f,Zt.T g=some f→T g=some f:=fun g f h=>by unfold T; rw [h]
theorem t43:T 43=some code43:=rfl
theorem t251:T 251=some code251:=rfl
theorem t252:T 252=some code252:=rfl
theorem t253:T 253=some code253:=rfl
theorem t255:T 255=some code255:=rfl
theorem t275:T 275=some code275:=rfl
theorem t276:T 276=some code276:=rfl
end Go.Abs.AbsTyb

namespace Go.Abs.Zt
open Go.Abs.Zd Go.Abs.Zh
open Go.Abs.Zo hiding T sub
variable {os O:List AObj} {b w:Nat} {N:Nat} {S:List (Str × Str)} {F M:List (Key × Mem)} {V:List (Key × Bool)}
end Go.Abs.Zt

namespace Go.Abs
variable {α:Type} {e:Nat} {f:α→List AVal} {O P:List AObj} {A:List α} {v:AVal} {b:Nat}
structure Acc (e:Nat) (f:α→List AVal) (O:List AObj) (A:List α) (P:List AObj) (v:AVal):Prop where
 pre:Pre O P
 val:(A=[]∧v = .slice none 0 (some 0))∨(A≠[]∧∃ i,O.length≤i∧v = .slice (some (i,0)) A.length none∧P[i]? = some (.cells e (A.flatMap f)))
theorem Acc.nil:Acc e f O [] O (.slice none 0 (some 0)):=⟨Pre.refl _,.inl ⟨rfl,rfl⟩⟩
def newV (n:Nat) (A:List α):AVal:=if A=[] then .slice none 0 (some 0) else .slice (some (n,0)) A.length none
def newO (e:Nat) (f:α→List AVal) (O:List AObj) (A:List α):List AObj:=if A=[] then O else O++[.cells e (A.flatMap f)]
def Keeps (P P':List AObj) (n:Nat) (v:AVal):Prop:=∀ (k:Nat) (o:AObj),P[k]? = some o→v ≠ .slice (some (k,0)) n none→P'[k]? = some o
theorem Acc.add (h:Acc e f O A P v) (hf:∀ y,(f y).length=e) (hb:b≤O.length) {by':Nat} (hl:(A.length+1)*by'≤140737488355328) (hl2:A.length≤1000000000) (x:α) :
  ∃ P' v',∃ nx:Nat→Nat,Acc e f O (A++[x]) P' v'∧(∀ w,O.length≤w→O.length≤nx w)∧((∀ w,nx w≤w∧(A≠[]→nx w < P.length))∧Keeps P P' A.length v∧v' = .slice (some (P.length+1,0)) (A.length+1) none)∧∀ w,eb e by' ⟨P++[.cells e (f x)],b,w⟩ v (.slice (some (P.length,0)) 1 (some 1))=some (v',⟨P',b,nx w⟩):=by
 have hz:∀ w,il e ⟨P++[.cells e (f x)],b,w⟩ (.slice (some (P.length,0)) 1 (some 1))=some (f x):=fun w =>
  pu (by show (P++[AObj.cells e (f x)])[P.length]? = _; rw [dp]; rfl) (by rw [hf,Nat.one_mul])
 have hs:(P++[AObj.cells e (f x)]).length=P.length+1:=by simp
 have he:(A++[x]).flatMap f=A.flatMap f++f x:=by simp
 have hlen:(A++[x]).length=A.length+1:=by simp
 have hne:A++[x]≠[]:=by simp
 have hpl:=h.pre.len;rcases h.val with ⟨rfl,rfl⟩ | ⟨h1,i,h2,rfl,h4⟩
 ·refine ⟨P++[.cells e (f x),.cells e (f x)],.slice (some (P.length+1,0)) 1 none,id,⟨h.pre.trans (Pre.app _ _),.inr ⟨hne,P.length+1,by omega,by rw [hlen]; rfl,by rw [du]; simp⟩⟩,fun w hw=>hw,⟨fun w=>⟨ai w,fun h=>absurd rfl h⟩,fun k o hk _=>by rw [ag (aj hk)]; exact hk,by simp⟩,fun w=>?_⟩;unfold eb;simp only [hz,qh,aApp,alen];have q1:¬ (1:Nat)=0:=by decide
  have q2:(0+1)*by'≤140737488355328∧0+1≤9223372036854775807:=⟨by simpa using hl,by decide⟩
  simp only [eq_false q1,eq_true q2,if_false,if_true];simp [Heap.push,Heap.size]
 ·have hi:=aj h4;have h5:(P++[AObj.cells e (f x)])[i]? = some (.cells e (A.flatMap f)):=by rw [ag hi]; exact h4
  have hfl:(A.flatMap f).length=A.length*e:=lx f e hf A;have hz1:∀ w,il e ⟨P++[.cells e (f x)],b,w⟩ (.slice (some (i,0)) A.length none)=some (A.flatMap f):=fun w=>pu h5 hfl
  have hr:∀ w,rowIs ⟨P++[.cells e (f x)],b,w⟩ i e=true:=fun w=>by unfold rowIs Heap.get;simp only [h5];simp
  refine ⟨P.set i .dead++[.cells e (f x),.cells e ((A++[x]).flatMap f)],.slice (some (P.length+1,0)) (A++[x]).length none,fun w=>min w i,⟨?_,.inr ⟨hne,P.length+1,by omega,rfl,?_⟩⟩,fun w hw=>by show O.length≤min w i; omega,⟨fun w=>⟨by show min w i≤w; omega,fun _=>by show min w i < P.length; omega⟩,fun k o hk hne=>by rw [ag (by rw [jh]; exact aj hk),ap (fun e=>hne (by rw [e]))]; exact hk,by rw [hlen]⟩,fun w=>?_⟩
  ·exact (h.pre.set .dead h2).trans (Pre.app _ _)
  ·rw [ak (by simp)];simp
  ·unfold eb;simp only [hz,hz1,aApp,alen];have q1:¬ (1:Nat)=0:=by decide
   have q2:(A.length+1)*by'≤140737488355328∧A.length+1≤9223372036854775807:=⟨hl,by omega⟩
   have q3:¬ (none:Option Nat)=some A.length:=by simp
   have q4:(⟨P++[AObj.cells e (f x)],b,w⟩:Heap).base≤i∧rowIs ⟨P++[AObj.cells e (f x)],b,w⟩ i e=true:=⟨by show b≤i; omega,hr w⟩;simp only [eq_false q1,eq_true q2,eq_false q3,eq_true q4,if_false,if_true];simp only [Heap.push,Heap.put,Heap.size,tf _ _ hi,jh,hs,he,hlen,ba,bl,bj]
theorem idsL_none {L:List AVal} (h:∀ x ∈ L,x.ids=[]):AVal.idsL L=[]:=by rw [pm,List.flatMap_eq_nil_iff]; exact h
theorem Acc.fin (h:Acc e f O A P v) (hi:∀ x,AVal.idsL (f x)=[]) (hr:∀ g x,AVal.renL g (f x)=f x) {w0 W:Nat} (hW:O.length≤W):dy ⟨O,b,w0⟩ v ⟨P,b,W⟩=(newV O.length A,⟨newO e f O A,b,w0⟩):=by
 have hia:AVal.idsL (A.flatMap f)=[]:=by
  refine idsL_none fun y hy=>?_
  obtain ⟨x,hx,hy⟩:=eu.1 hy;have:=hi x;rw [pm,List.flatMap_eq_nil_iff] at this;exact this y hy
 have hra:∀ g,AVal.renL g (A.flatMap f)=A.flatMap f:=fun g=>by
  have:∀ L:List α,AVal.renL g (L.flatMap f)=L.flatMap f:=fun L=>by
   induction L with
   | nil=>rfl
   | cons x L ih=>rw [ci,xg,hr,ih]
  exact this A
 have hw2:(⟨O,b,w0⟩:Heap).size≤(⟨P,b,W⟩:Heap).wmin:=hW;rcases h.val with ⟨rfl,rfl⟩ | ⟨h1,i,h2,rfl,h4⟩
 ·have hw3:¬ W < O.length:=by omega
  simp [dy,newV,newO,Heap.size,hw3,AVal.under]
 ·have hv:AVal.under (⟨O,b,w0⟩:Heap).size (.slice (some (i,0)) A.length none)=false:=by
   have:¬ i < O.length:=by omega
   simp [AVal.under,Heap.size,this]
  have hg:(⟨P,b,W⟩:Heap).get i=some (.cells e (A.flatMap f)):=h4
  have hreach:reach ⟨P,b,W⟩ (⟨O,b,w0⟩:Heap).size 1000 (AVal.slice (some (i,0)) A.length none).ids []=[i]:=by simp only [AVal.ids];rw [reach,if_neg (by show ¬ i < O.length; omega),if_neg (by simp),hg];simp only [bw,cq,AObj.ids,hia,bj];rfl
  refine (ly hw2 hv hreach fun j hj=>?_).trans ?_
  ·simp only [AVal.ids,ci,jo,hg,bw,cq,AObj.ids,hia,co,br,d7,or_false] at hj;subst hj;exact .inr (fb _)
  ·have key:∀ g:Nat→Nat,g i=O.length→((AVal.slice (some (i,0)) A.length none).ren g,(⟨O++[AObj.cells e (A.flatMap f)],b,w0⟩:Heap))=(newV O.length A,⟨newO e f O A,b,w0⟩):=fun g hg'=>by unfold newV newO;rw [if_neg h1,if_neg h1];simp only [AVal.ren,hg']
   simp only [Heap.size,cf,fm,hg,bw,cq,AObj.ren,hra];exact key _ ((if_neg (show ¬ i < O.length by omega)).trans (by simp [idxIn]))
end Go.Abs

namespace Go.Abs.Zt
open Go.Abs.Zd Go.Abs.Zh
open Go.Abs.Zo hiding T sub
variable {os O:List AObj} {b w:Nat}
def wide (t:Str):List Str:=if t=[74] then [t,[45]] else [t]
def ul (L:List Str):List Str:=L.flatMap wide
theorem kj (t:Str):(dj t).length=1:=rfl
section
attribute [-simp] getElem?_pos getElem?_neg List.all_eq_true
attribute [local simp] gz gs nltT nltF iltT iltF ileT nleT de
theorem l260 {L:List Str} {a:Option (Nat × Nat)} {c:Option Nat} (hL:Row O 1 dj L a) (hb:b≤O.length) (hn:L.length≤1000):∀ (j i w:Nat) (A:List Str) (P:List AObj) (v:AVal),i+j=L.length→A.length≤2*i+1000→O.length≤w→Acc 1 dj O A P v →
  ∃ P' v',∃ W:Nat,Acc 1 dj O (A++ul (L.drop i)) P' v'∧O.length≤W∧∀ (k:AExit→St→Option (AVal × Heap)),
  xK T (.loop code100260L0) ⟨[(3,.val v),(6,.val (.slice a L.length c)),(7,.val (.int .i64 L.length)),(8,.val (.int .i64 i))],⟨P,b,w⟩⟩ (k:=⟨k⟩)=k (.exit 0) ⟨[(3,.val v')],⟨P',b,W⟩⟩
 | 0,i,w,A,P,v,hi,hA,hw,h=>by
  refine ⟨P,v,w,?_,hw,fun k=>?_⟩
  ·rw [b0 (by omega)]; simpa [ul] using h
  ·rw [cg];simp (disch:=omega) [code100260L0]
 | j+1,i,w,A,P,v,hi,hA,hw,h=>by
  obtain ⟨x,hx⟩:∃ x,L[i]? = some x:=⟨_,ah (by omega)⟩;obtain ⟨p,o,cs,ha,hpp,ht⟩:=qd (h.pre.row hL) hx;subst ha;obtain ⟨P1,v1,n1,h1,hn1,hm1,e1⟩:=h.add (b:=b) kj hb (by':=16) (by omega) (by omega) x;have hdx:ul (L.drop i)=wide x++ul (L.drop (i+1)):=by rw [jx hx]; rfl
  have e2:((i+1:Nat):Int)=(i:Int)+1:=by omega
  have hl1:(A++[x]).length=A.length+1:=by simp
  have hs:dj x=[.str x]:=rfl;rw [hs] at e1;by_cases hJ:x=[74]
  ·subst hJ;obtain ⟨P2,v2,n2,h2,hn2,_,e3⟩:=h1.add (b:=b) kj hb (by':=16) (by omega) (by omega) [45];have hl2:(A++[[74]]++[[45]]).length=A.length+2:=by simp
   obtain ⟨P',v',W,i1,i2,i3⟩:=l260 (c:=c) hL hb hn j (i+1) (n2 (n1 w)) _ P2 v2 (by omega) (by omega) (hn2 _ (hn1 _ hw)) h2;refine ⟨P',v',W,?_,i2,fun k=>?_⟩
   ·rw [hdx]; simpa [wide] using i1
   ·have ih:=i3 k;rw [e2] at ih;have hs2:dj [45]=[.str [45]]:=rfl;rw [hs2] at e3;rw [cg];generalize ACode.loop code100260L0=LL at ih ⊢;simp (disch:=omega) [-eb,code100260L0,hpp,ht,e1,e3,ih]
  ·obtain ⟨P',v',W,i1,i2,i3⟩:=l260 (c:=c) hL hb hn j (i+1) (n1 w) _ P1 v1 (by omega) (by omega) (hn1 _ hw) h1;refine ⟨P',v',W,?_,i2,fun k=>?_⟩
   ·rw [hdx]; simpa [wide,hJ] using i1
   ·have ih:=i3 k;rw [e2] at ih;rw [cg];generalize ACode.loop code100260L0=LL at ih ⊢;simp (disch:=omega) [-eb,code100260L0,hpp,ht,e1,hJ,ih]
end
theorem idsS (t:Str):AVal.idsL (dj t)=[]:=rfl
theorem renS (g:Nat→Nat) (t:Str):AVal.renL g (dj t)=dj t:=rfl
theorem s260 {L:List Str} {a:Option (Nat × Nat)} {c:Option Nat} (hL:Row O 1 dj L a) (hb:b≤O.length) (hn:L.length≤1000) :
  xCall T 100260 [.slice a L.length c] ⟨O,b,w⟩=some (newV O.length (ul L),⟨newO 1 dj O (ul L),b,w⟩):=by
 obtain ⟨P',v',W,i1,i2,i3⟩:=l260 (c:=c) hL hb hn L.length 0 O.length [] O _ (by omega) (by simp) (ai _) Acc.nil;have hf:=i1.fin (b:=b) (w0:=w) idsS renS i2;simp only [ce,eo,bj] at i3 hf;simp (disch:=omega) [-getElem?_pos,-getElem?_neg,-List.all_eq_true,gz,gs,nltT,nltF,iltT,iltF,ileT,nleT,de,-eb,-dy,au t100260,code100260,i3,hf]
theorem mapS (l:List Str):l.map AVal.str=l.flatMap dj:=by
 induction l with
 | nil=>rfl
 | cons a l ih=>rw [cf,ci,ih]; rfl
end Go.Abs.Zt

namespace Go.Abs.Zt
open Go.Abs.Zd Go.Abs.Zh
open Go.Abs.Zo hiding T sub
variable {os O:List AObj} {b w:Nat}
structure RowN (O P:List AObj) (L:List Str) (a:Option (Nat × Nat)):Prop where
 r:Row P 1 dj L a
 o:over O.length a
theorem RowN.nil {P:List AObj}:RowN O P [] none:=⟨⟨fun h=>absurd rfl h⟩,fun i o h=>by cases h⟩
theorem mapid (L:List Str):L.map (fun x=>x)=L:=List.map_id L
end Go.Abs.Zt

namespace Go.Abs.Zt
open Go.Abs.Zd Go.Abs.Zh
open Go.Abs.Zo hiding T sub
variable {os O:List AObj} {b w:Nat}
end Go.Abs.Zt

namespace Go.Abs.Zt
open Go.Abs.Zd Go.Abs.Zh
open Go.Abs.Zo hiding T sub
variable {os O:List AObj} {b w:Nat} {N:Nat} {S:List (Str × Str)} {F M:List (Key × Mem)} {V:List (Key × Bool)}
theorem World.pre {P:List AObj} (h:Zh.World O N S F M V) (hp:Pre O P):Zh.World P N S F M V :=
 ⟨hp _ _ h.w0,hp _ _ h.m1,hp _ _ h.m2,hp _ _ h.m3,hp _ _ h.m4⟩
theorem t91:T 91=some code91:=subT 91 _ (Zh.sub 91 _ Zd.t91)
theorem t142:T 142=some code142:=subT 142 _ (Zh.sub 142 _ Zd.t142)
end Go.Abs.Zt

namespace Go.Abs.Zt
open Go.Abs.Zd Go.Abs.Zh
open Go.Abs.Zo hiding T sub
variable {os O:List AObj} {b w:Nat} {N:Nat} {S:List (Str × Str)} {F M:List (Key × Mem)} {V:List (Key × Bool)}
structure MapU.fine (O:List AObj) (x:MapU):Prop where
 l:Row O 1 dj x.locals x.la
 ln:x.locals.length≤100
 ls:∀ t ∈ x.locals,t.length≤9223372036854775807
 lu:under O.length x.la
 s:Row O 1 dj x.stack x.sa
 sn:x.stack.length≤100
 ss:∀ t ∈ x.stack,t.length≤9223372036854775807
 su:under O.length x.sa
theorem lowI {n:Nat} {a:Option (Nat × Nat)} {l:Nat} {c:Option Nat} (hu:under n a):((AVal.slice a l c).ids.all fun i=>decide (i < n))=true:=by rw [al]; exact fun i hi=>decide_eq_true (ids_slice hu i hi)
end Go.Abs.Zt

namespace Go.Abs.Zt
open Go.Abs.Zd Go.Abs.Zh
open Go.Abs.Zo hiding T sub
variable {os O:List AObj} {b w:Nat} {N:Nat} {S:List (Str × Str)} {F M:List (Key × Mem)} {V:List (Key × Bool)}
section
variable {f:FrU}
end
end Go.Abs.Zt

namespace Go.Abs.Zt
open Go.Abs.Zd Go.Abs.Zh
open Go.Abs.Zo hiding T sub
variable {os O:List AObj} {b w:Nat}
section
attribute [-simp] getElem?_pos getElem?_neg List.all_eq_true
attribute [local simp] gz gs nltT nltF iltT iltF ileT nleT de
theorem l235a {L:List Str} {a a':Option (Nat × Nat)} {c c':Option Nat} {y z:AVal} (h1:Row O 1 dj L a) (h2:Row O 1 dj L a') (hn:L.length≤1000):∀ (j i:Nat) (w:Nat),i+j=L.length→∀ (k:AExit→St→Option (AVal × Heap)),
  xK T (.loop code235L1) ⟨[(2,.var [.slice a L.length c,y]),(3,.var [.slice a' L.length c',z]),(25,.val (.int .i64 L.length)),(26,.val (.int .i64 i))],⟨O,b,w⟩⟩ (k:=⟨k⟩) =
   k (.exit 0) ⟨[(2,.var [.slice a L.length c,y]),(3,.var [.slice a' L.length c',z])],⟨O,b,w⟩⟩
 | 0,i,w,hi,k=>by rw [cg];simp (disch:=omega) [code235L1]
 | j+1,i,w,hi,k=>by
  obtain ⟨x,hx⟩:∃ x,L[i]? = some x:=⟨_,ah (by omega)⟩;obtain ⟨p,o,cs,ha,hpp,ht⟩:=qd h1 hx;obtain ⟨p',o',cs',ha',hpp',ht'⟩:=qd h2 hx;have ih:=l235a (c:=c) (c':=c') (y:=y) (z:=z) h1 h2 hn j (i+1) w (by omega) k;have e2:((i+1:Nat):Int)=(i:Int)+1:=by omega
  rw [e2] at ih;subst ha ha';rw [cg];generalize ACode.loop code235L1=LL at ih ⊢;simp (disch:=omega) [code235L1,hpp,hpp',ht,ht',ih]
theorem l235b {L:List Str} {a a':Option (Nat × Nat)} {c c':Option Nat} {y z:AVal} (h1:Row O 1 dj L a) (h2:Row O 1 dj L a') (hn:L.length≤1000):∀ (j i:Nat) (w:Nat),i+j=L.length→∀ (k:AExit→St→Option (AVal × Heap)),
  xK T (.loop code235L0) ⟨[(2,.var [y,.slice a L.length c]),(3,.var [z,.slice a' L.length c']),(43,.val (.int .i64 L.length)),(44,.val (.int .i64 i))],⟨O,b,w⟩⟩ (k:=⟨k⟩) =
   k (.exit 2) ⟨[],⟨O,b,w⟩⟩
 | 0,i,w,hi,k=>by rw [cg];simp (disch:=omega) [code235L0]
 | j+1,i,w,hi,k=>by
  obtain ⟨x,hx⟩:∃ x,L[i]? = some x:=⟨_,ah (by omega)⟩;obtain ⟨p,o,cs,ha,hpp,ht⟩:=qd h1 hx;obtain ⟨p',o',cs',ha',hpp',ht'⟩:=qd h2 hx;have ih:=l235b (c:=c) (c':=c') (y:=y) (z:=z) h1 h2 hn j (i+1) w (by omega) k;have e2:((i+1:Nat):Int)=(i:Int)+1:=by omega
  rw [e2] at ih;subst ha ha';rw [cg];generalize ACode.loop code235L0=LL at ih ⊢;simp (disch:=omega) [code235L0,hpp,hpp',ht,ht',ih]
theorem s235 {L M:List Str} {a a' e e':Option (Nat × Nat)} {c c' d d':Option Nat} (h1:Row O 1 dj L a) (h2:Row O 1 dj L a') (h3:Row O 1 dj M e) (h4:Row O 1 dj M e') (hn:L.length≤1000) (hm:M.length≤1000) :
  xCall T 235 [.agg [.slice a L.length c,.slice e M.length d],.agg [.slice a' L.length c',.slice e' M.length d']] ⟨O,b,w⟩=some (.bool true,⟨O,b,w⟩):=by
 have k1:=fun w k=>l235a (b:=b) (c:=c) (c':=c') (y:=.slice e M.length d) (z:=.slice e' M.length d') h1 h2 hn L.length 0 w (by omega) k
 have k2:=fun w k=>l235b (b:=b) (c:=d) (c':=d') (y:=.slice a L.length c) (z:=.slice a' L.length c') h3 h4 hm M.length 0 w (by omega) k
 simp only [ce] at k1 k2;simp (disch:=omega) [au t235,code235,k1,k2]
end
end Go.Abs.Zt

namespace Go.Abs.AbsTyb
open Go.Abs.Zd Go.Abs.Zh
open Go.Abs.Zo hiding T sub
open Go.Abs.Zt hiding T sub subT
variable {os O:List AObj} {b w N:Nat} {S:List (Str × Str)} {F M:List (Key × Mem)} {V:List (Key × Bool)}
theorem subT:∀ g f,Zh.T g=some f→AbsTyb.T g=some f:=fun g f h=>AbsTyb.sub g f (Zt.subT g f h)
def slotsN (t:Str):Nat:=if t=[86] then 0 else if t=[74] then 2 else 1
section
attribute [-simp] getElem?_pos getElem?_neg List.all_eq_true
attribute [local simp] gz gs nltT nltF iltT iltF ileT nleT de
theorem s43 {i:Nat} {t:Str} (hi:O[i]? = some (.cells 1 [.str t])) (w:Nat):xCall T 43 [.slice (some (i,0)) 1 (some 1)] ⟨O,b,w⟩=some (.int .i64 (slotsN t),⟨O,b,w⟩):=by
 have h1:∀ (r:Int) (w:Nat) (k:AExit→St→Option (AVal × Heap)),xK T (.loop code43L0) ⟨[(3,.val (.int .i64 r)),(6,.val (.slice (some (i,0)) 1 (some 1))),(7,.val (.int .i64 1)),(8,.val (.int .i64 1))],⟨O,b,w⟩⟩ (k:=⟨k⟩)=k (.exit 0) ⟨[(3,.val (.int .i64 r))],⟨O,b,w⟩⟩:=fun r w k=>by rw [cg];simp (disch:=omega) [code43L0]
 have h0:∀ (w:Nat) (k:AExit→St→Option (AVal × Heap)),xK T (.loop code43L0) ⟨[(3,.val (.int .i64 0)),(6,.val (.slice (some (i,0)) 1 (some 1))),(7,.val (.int .i64 1)),(8,.val (.int .i64 0))],⟨O,b,w⟩⟩ (k:=⟨k⟩)=k (.exit 0) ⟨[(3,.val (.int .i64 (slotsN t)))],⟨O,b,w⟩⟩:=fun w k=>by
  rw [cg];generalize ACode.loop code43L0=LL at h1 ⊢;unfold slotsN;by_cases c1:t=[86]
  ·simp (disch:=omega) [code43L0,hi,c1,h1]
  ·by_cases c2:t=[74]
   ·simp (disch:=omega) [code43L0,hi,c1,c2,h1]
   ·simp (disch:=omega) [code43L0,hi,c1,c2,h1]
 simp (disch:=omega) [au t43,code43,h0]
end
def meetsS (S:List (Str × Str)) (H:List Str) (t:Str):Bool:=match H with
 | []=>false
 | x :: r =>
  if t=[65] then decide (x=[78]) || isRef x
  else if t=[49] then !decide (x=[84]) && (!decide (x=[74]) && !decide (x=[45]))
  else if t=[74] then (match r with | []=>false | y :: _=>decide (x=[74]) && decide (y=[45]))
  else !decide (x=[84]) && (!decide (x=[45]) && zcb S x t)
section
attribute [-simp] getElem?_pos getElem?_neg List.all_eq_true
attribute [local simp] gz gs nltT nltF iltT iltF ileT nleT de
theorem s276 (h:Zh.World O N S F M V) (hb:b≤O.length) (hS:S.length≤9223372036854775807) {H:List Str} {a:Option (Nat × Nat)} {c:Option Nat} (hR:Row O 1 dj H a) (hn:H.length≤1000) (hs:∀ x ∈ H,x.length≤9223372036854775807) {t:Str} (ht:t.length≤9223372036854775807) (w:Nat) :
  xCall T 276 [.ptr (some (N,0)),.slice a H.length c,.str t] ⟨O,b,w⟩=some (.bool (meetsS S H t),⟨O,b,w⟩):=by
 cases H with
 | nil=>simp (disch:=omega) [au t276,code276,meetsS]
 | cons x r =>
  obtain ⟨p,o,cs,ha,hp,hv⟩:=qd hR (i:=0) (x:=x) rfl;subst ha;rw [iz] at hv;have h247:=fun w=>fh AbsTyb.sub (s247 (b:=b) h hb hS x t w (hs x (by simp)) ht)
  have h30:=fun w=>fh subT (Zh.s30 (os:=O) (b:=b) (w:=w) (s:=x))
  unfold meetsS;simp only;have hz0:¬ (r.length:Int)+1=0:=by omega
  have hz1:(0:Int) < (r.length:Int)+1:=by omega
  by_cases c1:t=[65]
  ·subst c1;by_cases c2:x=[78]
   ·simp (disch:=omega) [au t276,code276,hz0,hz1,hp,hv,c2]
   ·cases e:isRef x with
    | true=>rw [e] at h30; simp (disch:=omega) [au t276,code276,hz0,hz1,hp,hv,c2,h30]
    | false=>rw [e] at h30; simp (disch:=omega) [au t276,code276,hz0,hz1,hp,hv,c2,h30]
  ·by_cases c2:t=[49]
   ·subst c2;by_cases d1:x=[84]
    ·simp (disch:=omega) [au t276,code276,hz0,hz1,hp,hv,d1]
    ·by_cases d2:x=[74]
     ·simp (disch:=omega) [au t276,code276,hz0,hz1,hp,hv,d1,d2]
     ·by_cases d3:x=[45]
      ·simp (disch:=omega) [au t276,code276,hz0,hz1,hp,hv,d1,d2,d3]
      ·simp (disch:=omega) [au t276,code276,hz0,hz1,hp,hv,d1,d2,d3]
   ·by_cases c3:t=[74]
    ·subst c3;cases r with
     | nil=>simp (disch:=omega) [au t276,code276,hp,hv]
     | cons y r =>
      obtain ⟨p',o',cs',ha',hp',hv'⟩:=qd hR (i:=1) (x:=y) rfl;cases ha';rw [hp] at hp'; cases hp';have hl:(1:Int) < (r.length:Int)+1+1:=by omega
      have hl3:¬ (r.length:Int)+1+1=0:=by omega
      have hl2:(0:Int) < (r.length:Int)+1+1:=by omega
      by_cases d1:x=[74]
      ·by_cases d2:y=[45] <;> simp (disch:=omega) [au t276,code276,hz0,hz1,hp,hv,hv',hl,hl2,hl3,d1,d2]
      ·simp (disch:=omega) [au t276,code276,hz0,hz1,hp,hv,hv',hl,hl2,hl3,d1]
    ·by_cases d1:x=[84]
     ·simp (disch:=omega) [au t276,code276,hz0,hz1,hp,hv,c1,c2,c3,d1]
     ·by_cases d2:x=[45]
      ·simp (disch:=omega) [au t276,code276,hz0,hz1,hp,hv,c1,c2,c3,d1,d2]
      ·cases e:zcb S x t with
       | true=>rw [e] at h247; simp (disch:=omega) [au t276,code276,hz0,hz1,hp,hv,c1,c2,c3,d1,d2,h247]
       | false=>rw [e] at h247; simp (disch:=omega) [au t276,code276,hz0,hz1,hp,hv,c1,c2,c3,d1,d2,h247]
end
theorem s6 {P:List AObj} {e q n:Nat} {cs:List AVal} {c:Option Nat} {W:Nat} (hq:P[q]? = some (.cells e cs)) (hI:AVal.idsL cs=[]) (hR:∀ g,AVal.renL g cs=cs) (h1:O.length≤q) (hW:O.length≤W) :
  dy ⟨O,b,w⟩ (.slice (some (q,0)) n c) ⟨P,b,W⟩=(.slice (some (O.length,0)) n c,⟨O++[.cells e cs],b,w⟩):=by
 have hv:AVal.under (⟨O,b,w⟩:Heap).size (.slice (some (q,0)) n c)=false:=by
  have:¬ q < O.length:=by omega
  simp [AVal.under,Heap.size,this]
 have hg:(⟨P,b,W⟩:Heap).get q=some (.cells e cs):=hq
 have hreach:reach ⟨P,b,W⟩ (⟨O,b,w⟩:Heap).size 1000 (AVal.slice (some (q,0)) n c).ids []=[q]:=by simp only [AVal.ids];rw [reach,if_neg (by show ¬ q < O.length; omega),if_neg (by simp),hg];simp only [bw,cq,AObj.ids,hI,bj];rfl
 refine (ly (show (⟨O,b,w⟩:Heap).size≤(⟨P,b,W⟩:Heap).wmin from hW) hv hreach fun j hj=>?_).trans ?_
 ·simp only [AVal.ids,ci,jo,hg,bw,cq,AObj.ids,hI,co,br,d7,or_false] at hj;subst hj;exact .inr (fb _)
 ·have key:∀ g:Nat→Nat,g q=O.length→((AVal.slice (some (q,0)) n c).ren g,(⟨O++[AObj.cells e cs],b,w⟩:Heap))=(.slice (some (O.length,0)) n c,⟨O++[.cells e cs],b,w⟩):=fun g hg'=>by simp only [AVal.ren,hg']
  simp only [Heap.size,cf,fm,hg,bw,cq,AObj.ren,hR];exact key _ ((if_neg (show ¬ q < O.length by omega)).trans (by simp [idxIn]))
theorem idsR (L:List Str):AVal.idsL (L.flatMap dj)=[]:=by rw [← mapS]; exact idsL_strs L
theorem renR (g:Nat→Nat) (L:List Str):AVal.renL g (L.flatMap dj)=L.flatMap dj:=by rw [← mapS]; exact renL_strs g L
def cpV (n:Nat) (a:Option (Nat × Nat)) (L:List Str):AVal:=match a with
 | none=>.slice none 0 (some 0)
 | some _=>.slice (some (n,0)) L.length (if L=[] then some 0 else none)
def cpO (O:List AObj) (a:Option (Nat × Nat)) (L:List Str):List AObj:=match a with
 | none=>O
 | some _=>O++[.cells 1 (L.flatMap dj)]
def cpA (n:Nat) (a:Option (Nat × Nat)):Option (Nat × Nat):=match a with
 | none=>none
 | some _=>some (n,0)
def cpC (a:Option (Nat × Nat)) (L:List Str):Option Nat:=match a with
 | none=>some 0
 | some _=>if L=[] then some 0 else none
theorem nz {L:List Str} {e:Nat} (h:Row O e dj L none):L=[]:=by
 rcases L with _ | ⟨x,L⟩
 ·rfl
 ·obtain ⟨p,o,cs,h,_⟩:=h.at' (by simp); cases h
theorem cpV_eq {n:Nat} {a:Option (Nat × Nat)} {L:List Str} (h:Row O 1 dj L a):cpV n a L = .slice (cpA n a) L.length (cpC a L):=by
 cases a with
 | none=>rw [nz h]; rfl
 | some q=>rfl
theorem zae {a:Option (Nat × Nat)} {L:List Str}:Pre O (cpO O a L):=by
 cases a with
 | none=>exact Pre.refl _
 | some q=>exact Pre.app _ _
theorem cp_row {a:Option (Nat × Nat)} {L:List Str} (h:Row O 1 dj L a):RowN O (cpO O a L) L (cpA O.length a):=by
 cases a with
 | none=>rw [nz h]; exact RowN.nil
 | some q=>exact ⟨Row.mk0 kj (by unfold cpO; rw [dp]; rfl),fun i o e=>by cases e; exact ai _⟩
theorem zca {a:Option (Nat × Nat)} {L:List Str}:under (cpO O a L).length (cpA O.length a):=by
 cases a with
 | none=>exact fun i o e=>by cases e
 | some q=>exact fun i o e=>by cases e; simp [cpO]
section
attribute [-simp] getElem?_pos getElem?_neg List.all_eq_true
attribute [local simp] gz gs nltT nltF iltT iltF ileT nleT de
theorem s273 {L:List Str} {a:Option (Nat × Nat)} {c:Option Nat} (hR:Row O 1 dj L a) (hn:L.length≤100000) (w:Nat):xCall T 100273 [.slice a L.length c] ⟨O,b,w⟩=some (cpV O.length a L,⟨cpO O a L,b,w⟩):=by
 have tt:T 100273=some code100273:=AbsTyb.sub _ _ t100273;cases a with
 | none =>
  have:=nz hR;subst this;simp (disch:=omega) [au tt,code100273,cpV,cpO]
 | some q =>
  obtain ⟨i,o⟩:=q;have hrow:∀ w,il 1 ⟨O++[.cells 1 []],b,w⟩ (.slice (some (i,o)) L.length c)=some (L.flatMap dj):=fun w=>ol (h:=⟨O++[.cells 1 []],b,w⟩) ((Pre.app _ _).row hR)
  have hz:∀ w,il 1 ⟨O++[.cells 1 []],b,w⟩ (.slice (some (O.length,0)) 0 (some 0))=some []:=fun w=>qh
  by_cases hL:L=[]
  ·subst hL
   have e1:∀ w,eb 1 16 ⟨O++[.cells 1 []],b,w⟩ (.slice (some (O.length,0)) 0 (some 0)) (.slice (some (i,o)) 0 c)=some (.slice (some (O.length,0)) 0 (some 0),⟨O++[.cells 1 []],b,w⟩):=fun w=>by have:=hrow w;unfold eb;simp only [bf] at this;simp only [hz,this,aApp,alen,if_true]
   have hf:=s6 (O:=O) (b:=b) (w:=w) (P:=O++[.cells 1 []]) (e:=1) (q:=O.length) (n:=0) (cs:=[]) (c:=some 0) (W:=O.length) (by rw [dp]; rfl) rfl (fun _=>rfl) (ai _) (ai _);simp (disch:=omega) [-eb,-dy,au tt,code100273,e1,hf,cpV,cpO]
  ·have hl:¬ L.length=0:=fun e=>hL (bq e)
   have e1:∀ w,eb 1 16 ⟨O++[.cells 1 []],b,w⟩ (.slice (some (O.length,0)) 0 (some 0)) (.slice (some (i,o)) L.length c)=some (.slice (some (O.length+1,0)) L.length none,⟨O++[.cells 1 [],.cells 1 (L.flatMap dj)],b,w⟩):=fun w=>by unfold eb;simp only [hz,hrow w,aApp,alen];have q2:(0+L.length)*16≤140737488355328∧0+L.length≤9223372036854775807:=⟨by omega,by omega⟩;simp only [eq_false hl,eq_true q2,if_false,if_true];simp [Heap.push,Heap.size]
   have hf:=s6 (O:=O) (b:=b) (w:=w) (P:=O++[.cells 1 [],.cells 1 (L.flatMap dj)]) (e:=1) (q:=O.length+1) (n:=L.length) (cs:=L.flatMap dj) (c:=none) (W:=O.length) (by rw [du]; rfl) (idsR L) (fun g=>renR g L) (by omega) (ai _);simp (disch:=omega) [-eb,-dy,au tt,code100273,e1,hf,cpV,cpO,hL]
end
end Go.Abs.AbsTyb
