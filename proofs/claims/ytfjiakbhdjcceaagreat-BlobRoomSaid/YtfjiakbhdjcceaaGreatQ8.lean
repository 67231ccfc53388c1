/-
  Texts joined.
-/
import Derived.Test.YtfjiakbhdjcceaaGreatQ0
import Derived.Test.YtfjiakbhdjcceaaGreatQ7
set_option linter.unusedVariables false
set_option linter.unusedSimpArgs false
set_option maxRecDepth 100000
namespace Go.Abs.AbsBlb
structure Sec where
 st:Int
 seq:Int
 er:Int
def Sec.cells (s:Sec):List AVal:=[.int .i64 s.st,.int .u32 s.seq,.int .i64 s.er]
@[simp] theorem Sec.len (s:Sec):s.cells.length=3:=rfl
@[simp] theorem Sec.take3 (s:Sec):s.cells.take 3=s.cells:=rfl
def opn (lim:Int) (x:Sec):Bool:=decide (x.st=0) || (decide (x.st=1) && decide (x.er < lim))
variable {os:List AObj} {b w:Nat}
theorem s22 {lim:Int} {x:Sec} {p:Nat} (d:os[p]? = some (.cells 1 [.int .i64 lim])) :
  xCall T 22 [.agg x.cells,.ptr (some (p,0))] ⟨os,b,w⟩=some (.bool (opn lim x),⟨os,b,w⟩):=by
 by_cases h0:x.st=0
 ·simp [o9 T t22,code22,Sec.cells,opn,d,h0]
 ·by_cases h1:x.st=1
  ·simp [o9 T t22,code22,Sec.cells,opn,d,h0,h1]
  ·simp [o9 T t22,code22,Sec.cells,opn,d,h0,h1]
theorem s13 {lim:Int}:xCall T 13 [.int .i64 lim] ⟨os,b,w⟩=some (.func 22 [] [.ptr (some (os.length,0))],⟨os++[.cells 1 [.int .i64 lim]],b,w⟩):=by simp [o9 T t13,code13,jz,j9]
theorem s15 {x:Sec}:xCall T 15 [.agg x.cells] ⟨os,b,w⟩=some (.int .i64 x.er,⟨os,b,w⟩):=by simp [o9 T t15,code15,Sec.cells]
theorem s18 {x:Sec}:xCall T 18 [.agg x.cells] ⟨os,b,w⟩=some (.bool (decide (x.st=2)),⟨os,b,w⟩):=by simp [o9 T t18,code18,Sec.cells]
theorem s19 {x:Sec}:xCall T 19 [.agg x.cells] ⟨os,b,w⟩=some (.int .u32 x.seq,⟨os,b,w⟩):=by simp [o9 T t19,code19,Sec.cells]
def least (m:Sec→Bool) (k:Sec→Int) (L:List Sec):Nat→Nat × Bool
 | 0=>(0,false)
 | i+1=>match L[i]? with
  | some x=>if m x && (!(least m k L i).2 || (L[(least m k L i).1]?).any fun y=>decide (k x < k y)) then (i,true) else least m k L i
  | none=>least m k L i
theorem zax (m:Sec→Bool) (k:Sec→Int) (L:List Sec):∀ i,i≤L.length→(least m k L i).2=true→(least m k L i).1 < L.length
 | 0,_,h=>by simp [least] at h
 | i+1,hi,h=>by
  simp only [least] at h ⊢;split
  ·split
   ·show i < _; omega
   ·rename_i hx hc;rw [hx] at h;simp only at h;rw [if_neg hc] at h;exact zax m k L i (by omega) h
  ·rename_i hx;rw [hx] at h;exact zax m k L i (by omega) h
def stL (v mf kf:AVal) (n:Nat) (os:List AObj) (b w:Nat) (i:Nat) (p:Nat × Bool):St :=
 ⟨[(0,.val v),(1,.val mf),(2,.val kf),(8,.val (.int .i64 p.1)),(9,.val (.bool p.2)),(12,.val v),(13,.val (.int .i64 n)),(14,.val (.int .i64 i))],⟨os,b,w⟩⟩
section
attribute [-simp] getElem?_pos getElem?_neg List.all_eq_true
attribute [local simp] qZ qS nltT nltF iltT iltF ileT nleT di
theorem l14 {W:IntKind} {m:Sec→Bool} {k:Sec→Int} {L:List Sec} {a:Option (Nat × Nat)} {c:Option Nat} {gm gk:Nat} {am ak cm ck:List AVal} (Q:Row os 3 Sec.cells L a) (X:L.length≤1000000000)
  (hm:∀ (x:Sec) (w:Nat),xCall T gm (am ++ .agg x.cells :: cm) ⟨os,b,w⟩=some (.bool (m x),⟨os,b,w⟩))
  (C:∀ (x:Sec) (w:Nat),xCall T gk (ak ++ .agg x.cells :: ck) ⟨os,b,w⟩=some (.int W (k x),⟨os,b,w⟩)):∀ (j i w:Nat),i+j=L.length→∀ {β:Type} (k':AExit→St→Option β),
  xK T (.loop code14L0) (stL (.slice a L.length c) (.func gm am cm) (.func gk ak ck) L.length os b w i (least m k L i)) (k:=⟨k'⟩) =
   k' (.exit 0) ⟨[(8,.val (.int .i64 (least m k L L.length).1)),(9,.val (.bool (least m k L L.length).2))],⟨os,b,w⟩⟩
 | 0,i,w,hi,β,k'=>by
  obtain rfl:i=L.length:=by omega
  rw [b9];generalize least m k L L.length=p;unfold stL;simp (disch:=omega) [code14L0]
 | j+1,i,w,hi,β,k'=>by
  obtain ⟨x,hx⟩:∃ x,L[i]? = some x:=⟨_,ai (by omega)⟩;obtain ⟨bb,o,cs,rfl,d,e⟩:=Q.at' (lx hx);obtain ⟨G,J⟩:=e i x hx;have q:=zax m k L i (by omega);have e2:((i+1:Nat):Int)=(i:Int)+1:=by omega
  have ih:=l14 (c:=c) Q X hm C j (i+1) w (by omega) k';rw [b9,← ih];unfold stL;rw [e2]
  have N:least m k L (i+1)=if m x && (!(least m k L i).2 || (L[(least m k L i).1]?).any fun y=>decide (k x < k y)) then (i,true) else least m k L i:=by rw [least,hx]
  rw [N];generalize ACode.loop code14L0=LL;generalize least m k L i=p at q;obtain ⟨at_,f⟩:=p;by_cases A:m x=true
  ·cases f with
   | false =>
    simp (disch:=omega) [code14L0,d,G,J,hm,C,A]
   | true =>
    have D:=q rfl;simp only at D;obtain ⟨y,O⟩:∃ y,L[at_]? = some y:=⟨_,ai D⟩;obtain ⟨U,V⟩:=e at_ y O;by_cases q:k x < k y
    ·simp (disch:=omega) [code14L0,d,G,J,U,V,hm,C,A,O,q]
    ·simp (disch:=omega) [code14L0,d,G,J,U,V,hm,C,A,O,q]
  ·simp (disch:=omega) [code14L0,d,G,J,hm,C,A]
theorem s14 {m:Sec→Bool} {k:Sec→Int} {L:List Sec} {a:Option (Nat × Nat)} {c:Option Nat} {gm gk:Nat} {am ak cm ck:List AVal} (d:Row os 3 Sec.cells L a) (e:L.length≤1000000000)
  (hm:∀ (x:Sec) (w:Nat),xCall T gm (am ++ .agg x.cells :: cm) ⟨os,b,w⟩=some (.bool (m x),⟨os,b,w⟩))
  (j:∀ (x:Sec) (w:Nat),xCall T gk (ak ++ .agg x.cells :: ck) ⟨os,b,w⟩=some (.int .i64 (k x),⟨os,b,w⟩)) :
  xCall T 14 [.slice a L.length c,.func gm am cm,.func gk ak ck] ⟨os,b,w⟩=some (.tuple [.int .i64 (least m k L L.length).1,.bool (least m k L L.length).2],⟨os,b,w⟩):=by
 have h0:=fun {β:Type} (k':AExit→St→Option β)=>l14 (c:=c) d e hm j L.length 0 os.length (by omega) k'
 simp only [stL,bf,least] at h0;generalize least m k L L.length=p at *;simp (disch:=omega) [bg t14,code14,h0]
theorem s17 {m:Sec→Bool} {k:Sec→Int} {L:List Sec} {a:Option (Nat × Nat)} {c:Option Nat} {gm gk:Nat} {am ak cm ck:List AVal} (d:Row os 3 Sec.cells L a) (j:L.length≤1000000000)
  (hm:∀ (x:Sec) (w:Nat),xCall T gm (am ++ .agg x.cells :: cm) ⟨os,b,w⟩=some (.bool (m x),⟨os,b,w⟩))
  (q:∀ (x:Sec) (w:Nat),xCall T gk (ak ++ .agg x.cells :: ck) ⟨os,b,w⟩=some (.int .u32 (k x),⟨os,b,w⟩)) :
  xCall T 17 [.slice a L.length c,.func gm am cm,.func gk ak ck] ⟨os,b,w⟩=some (.tuple [.int .i64 (least m k L L.length).1,.bool (least m k L L.length).2],⟨os,b,w⟩):=by
 have h0:=fun {β:Type} (k':AExit→St→Option β)=>l14 (c:=c) d j hm q L.length 0 os.length (by omega) k'
 simp only [stL,bf,least] at h0;generalize least m k L L.length=p at *;have e:code17L0=code14L0:=rfl;simp (disch:=omega) [bg t17,code17,e,h0]
theorem s7 {lim:Int} {L:List Sec} {a:Option (Nat × Nat)} {c:Option Nat} (d:Row os 3 Sec.cells L a) (e:L.length≤1000000000) :
  xCall T 7 [.slice a L.length c,.int .i64 lim] ⟨os,b,w⟩=some (.tuple [.int .i64 (least (opn lim) Sec.er L L.length).1,.bool (least (opn lim) Sec.er L L.length).2],⟨os,b,w⟩):=by
 have h1:=fun w=>s14 (os:=os++[.cells 1 [.int .i64 lim]]) (b:=b) (w:=w) (c:=c) (m:=opn lim) (k:=Sec.er) (gm:=22) (gk:=15) (am:=[]) (ak:=[]) (cm:=[.ptr (some (os.length,0))]) (ck:=[]) (d.ext _) e
  (fun x w=>s22 (by simp)) (fun x w=>s15)
 generalize least (opn lim) Sec.er L L.length=p at *;simp (disch:=omega) [bg t7,code7,s13,h1]
theorem s5 {L:List Sec} {a:Option (Nat × Nat)} {c:Option Nat} (d:Row os 3 Sec.cells L a) (e:L.length≤1000000000) :
  xCall T 5 [.slice a L.length c] ⟨os,b,w⟩=some (.tuple [.int .i64 (least (fun x=>decide (x.st=2)) Sec.seq L L.length).1,.bool (least (fun x=>decide (x.st=2)) Sec.seq L L.length).2],⟨os,b,w⟩):=by
 have h1:=fun w=>s17 (os:=os) (b:=b) (w:=w) (c:=c) (m:=fun x=>decide (x.st=2)) (k:=Sec.seq) (gm:=18) (gk:=19) (am:=[]) (ak:=[]) (cm:=[]) (ck:=[]) d e
  (fun x w=>s18) (fun x w=>s19)
 generalize least (fun x=>decide (x.st=2)) Sec.seq L L.length=p at *;simp (disch:=omega) [bg t5,code5,h1]
end
def cnt (m:Sec→Bool) (L:List Sec):Nat→Nat
 | 0=>0
 | i+1=>match L[i]? with
  | some x=>if m x then cnt m L i+1 else cnt m L i
  | none=>cnt m L i
theorem cnt_le (m:Sec→Bool) (L:List Sec):∀ i,cnt m L i≤i
 | 0=>aj _
 | i+1=>by
  have:=cnt_le m L i;simp only [cnt];split
  ·split <;> omega
  ·omega
section
attribute [-simp] getElem?_pos getElem?_neg List.all_eq_true
attribute [local simp] qZ qS nltT nltF iltT iltF ileT nleT di
theorem lfree {m:Sec→Bool} {L:List Sec} {a:Option (Nat × Nat)} {c:Option Nat} {gm:Nat} {am cm:List AVal} (A:Row os 3 Sec.cells L a) (J:L.length≤1000000000)
  (hm:∀ (x:Sec) (w:Nat),xCall T gm (am ++ .agg x.cells :: cm) ⟨os,b,w⟩=some (.bool (m x),⟨os,b,w⟩)):∀ (j i w:Nat),i+j=L.length→∀ {β:Type} (k':AExit→St→Option β),
  xK T (.loop code0L0) ⟨[(5,.val (.int .i64 (cnt m L i))),(6,.val (.func gm am cm)),(11,.val (.slice a L.length c)),(12,.val (.int .i64 L.length)),(13,.val (.int .i64 i))],⟨os,b,w⟩⟩ (k:=⟨k'⟩) =
   k' (.exit 0) ⟨[(5,.val (.int .i64 (cnt m L L.length)))],⟨os,b,w⟩⟩
 | 0,i,w,hi,β,k'=>by
  obtain rfl:i=L.length:=by omega
  rw [b9];simp (disch:=omega) [code0L0]
 | j+1,i,w,hi,β,k'=>by
  obtain ⟨x,hx⟩:∃ x,L[i]? = some x:=⟨_,ai (by omega)⟩;obtain ⟨O,o,cs,rfl,d,e⟩:=A.at' (lx hx);obtain ⟨C,D⟩:=e i x hx;have hc:=cnt_le m L i;have N:((i+1:Nat):Int)=(i:Int)+1:=by omega
  have G:=lfree (c:=c) A J hm j (i+1) w (by omega) k';have y:cnt m L (i+1)=if m x then cnt m L i+1 else cnt m L i:=by rw [cnt,hx]
  rw [y,N] at G;rw [b9,← G];generalize ACode.loop code0L0=LL;generalize cnt m L i=p at hc;by_cases q:m x=true
  ·simp (disch:=omega) [code0L0,d,C,D,hm,q]
  ·simp (disch:=omega) [code0L0,d,C,D,hm,q]
theorem s0 {lim:Int} {L:List Sec} {a:Option (Nat × Nat)} {c:Option Nat} (d:Row os 3 Sec.cells L a) (e:L.length≤1000000000) :
  xCall T 0 [.slice a L.length c,.int .i64 lim] ⟨os,b,w⟩=some (.int .i64 (cnt (opn lim) L L.length),⟨os,b,w⟩):=by
 have h0:=fun {β:Type} (k':AExit→St→Option β)=>lfree (os:=os++[.cells 1 [.int .i64 lim]]) (b:=b) (c:=c) (gm:=22) (am:=[]) (cm:=[.ptr (some (os.length,0))]) (m:=opn lim) (d.ext _) e (fun x w=>s22 (by simp)) L.length 0 os.length (by omega) k'
 simp only [cnt,bf] at h0;simp (disch:=omega) [bg t0,code0,s13,h0]
end
end Go.Abs.AbsBlb

namespace Go.Abs.AbsBlb
open Go.Abs.Short
def blankB (l:Bs):Bool:=l.all fun c=>decide (c=255)
def lookB (l:Bs) (er:Nat):Sec :=
 if blankB l then ⟨0,0,er⟩ else if parseE l=0∧l[8]? = some 0∧l[9]? = some 255 then ⟨2,(getB ((l.drop 2).take 4):Nat),er⟩ else ⟨1,0,er⟩
def Fl.sec (F:Fl) (i:Nat):Bs:=(F.b.drop (i*F.z)).take F.z
def Fl.look (F:Fl) (i:Nat):Sec:=lookB (F.sec i) ((F.w[i]?).getD 0)
section
variable {H:List AObj} {b w:Nat}
section
attribute [-simp] getElem?_pos getElem?_neg List.all_eq_true
attribute [local simp] qZ qS nltT nltF iltT iltF ileT nleT di
theorem s585 {x:UInt8}:xCall T 585 [.int .u8 x.toNat] ⟨H,b,w⟩=some (.bool (!decide (x=255)),⟨H,b,w⟩):=by have h:=u8_255 x;simp (disch:=omega) [bg t585,code585,h]
theorem l176 {p o n:Nat} {c:Option Nat} {l:Bs} (A:SlB H p o n l) (hb:n≤1000000000):∀ (j i w:Nat),i+j=n →
  ∃ m:Nat,∀ {β:Type} (k:AExit→St→Option β),
  xK T (.loop code176L0) ⟨[(0,.val (.slice (some (p,o)) n c)),(1,.val (.func 585 [] [])),(7,.val (.int .i64 n)),(8,.val (.int .i64 i))],⟨H,b,w⟩⟩ (k:=⟨k⟩) =
   if blankB (l.drop i) then k (.exit 0) ⟨[],⟨H,b,w⟩⟩ else k .ret ⟨[(4,.val (.int .i64 m))],⟨H,b,w⟩⟩
 | 0,i,w,hi=>⟨0,fun k=>by have hd:l.drop i=[]:=dk (by have:=A.1; omega);rw [hd,b9];simp only [blankB,List.all_nil,if_true];simp (disch:=omega) [code176L0]⟩
 | j+1,i,w,hi=>by
  obtain ⟨x,hx⟩:∃ x,l[i]? = some x:=⟨_,ai (by have:=A.1; omega)⟩;obtain ⟨X,G,C⟩:=A.get hx;have e:=ah C;have L:((i+1:Nat):Int)=(i:Int)+1:=by omega
  have d:=fun w=>s585 (H:=H) (b:=b) (w:=w) (x:=x)
  have y:blankB (l.drop i)=(decide (x=255) && blankB (l.drop (i+1))):=by rw [iy hx]; rfl
  by_cases hc:x=255
  ·obtain ⟨m,hm⟩:=l176 (c:=c) A hb j (i+1) w (by omega);refine ⟨m,fun k=>?_⟩;have J:=hm k;rw [L] at J;rw [y,b9];simp only [hc,decide_true,wc];rw [← J];rw [hc] at d;have D:X[o+i]? = some (.int .u8 (255:UInt8).toNat):=by rw [← hc]; exact C
   generalize ((255:UInt8).toNat:Int)=q at *;generalize ACode.loop code176L0=LL;simp (disch:=omega) [code176L0,G,D,e,d]
  ·refine ⟨i,fun k=>?_⟩;rw [y,b9];simp only [hc,decide_false,Bool.false_and];generalize (x.toNat:Int)=q at *;simp (disch:=omega) [code176L0,G,C,e,d,hc]
theorem s145 {p o n:Nat} {c:Option Nat} {l:Bs} (j:SlB H p o n l) (hb:n≤1000000000):xCall T 145 [.slice (some (p,o)) n c,.func 585 [] []] ⟨H,b,w⟩=some (.bool (!blankB l),⟨H,b,w⟩):=by
 have d:∃ m:Int,(0≤m)=(blankB l=false)∧∀ w,xCall T 176 [.slice (some (p,o)) n c,.func 585 [] []] ⟨H,b,w⟩=some (.int .i64 m,⟨H,b,w⟩):=by
  obtain ⟨m,hm⟩:=l176 (b:=b) (c:=c) j hb n 0 H.length (by omega);simp only [bf,ff] at hm;by_cases hc:blankB l=true
  ·refine ⟨-1,by rw [hc]; decide,fun w=>?_⟩;simp only [eq_true hc,if_true] at hm;simp (disch:=omega) [bg t176,code176,hm]
  ·refine ⟨m,by simp [hc],fun w=>?_⟩;simp only [eq_false hc,if_false] at hm;simp (disch:=omega) [bg t176,code176,hm]
 obtain ⟨m,e,hm⟩:=d;simp (disch:=omega) [bg t145,code145,hm,e]
end
end
section
variable {H:List AObj} {b w:Nat} {I:FI} {F:Fl}
theorem FlA.sec_len (h:FlA H I F) {i:Nat} (hi:i < F.n):(F.sec i).length=F.z∧i*F.z+F.z≤F.b.length:=by
 have d:i*F.z+F.z≤F.b.length:=by
  rw [h.bl]
  calc i*F.z+F.z=(i+1)*F.z:=by rw [Nat.succ_mul]
   _≤F.n*F.z:=ge _ (by omega)
 refine ⟨?_,d⟩;unfold Fl.sec;rw [db,gh]; omega
section
attribute [-simp] getElem?_pos getElem?_neg List.all_eq_true
attribute [local simp] qZ qS nltT nltF iltT iltF ileT nleT di
theorem s564 (h:FlA H I F) {i:Nat} (hi:i < F.n) (hz:12≤F.z) (D:b≤H.length):xCall T 564 [.ptr (some (I.fl,0)),.int .i64 i] ⟨H,b,w⟩=some (.tuple [.agg (F.look i).cells,.int .i64 0],⟨H,b,w⟩):=by
 obtain ⟨V,W⟩:=h.sec_len hi;have ac:=h.nb.2;have ad:=h.nb.1;have ht:=h.total;have al:=ah h.f;obtain ⟨x,hx⟩:∃ x,F.w[i]? = some x:=⟨_,ai (by have:=h.wl; omega)⟩;have C:∀ Y,FlA (H++Y) I F:=fun Y=>h.keep fun i o ho _=>by rw [ag (ah ho)]; exact ho
 have p:=fun Y w=>s573 (b:=b) (w:=w) (C Y)
 have y:=fun Y w=>s587 (b:=b) (w:=w) (C Y) hx
 have j:=fun Y w=>s588 (b:=b) (w:=w) (a:=i*F.z) (n:=F.z) (C Y) (by omega) (by omega) (by omega) W
 have hS:∀ Z Y,SlB (H++Z :: AObj.cells 1 ((F.sec i).map u8V) :: Y) (H.length+1) 0 F.z (F.sec i):=fun Z Y=>SlB.whole (jv H (Z :: AObj.cells 1 ((F.sec i).map u8V) :: Y) 1) V
 have d:=fun Z Y w=>s586 (b:=b) (w:=w) (c:=none) (hS Z Y) hz (by omega) (aj _) (by rw [au]; omega)
 have A:=fun Z Y w=>s145 (b:=b) (w:=w) (c:=none) (hS Z Y) (by omega)
 have L:(F.b.drop (i*F.z)).take F.z=F.sec i:=rfl;rw [L] at j;have G:(i:Int)*(F.z:Int)=((i*F.z:Nat):Int):=(Int.natCast_mul i F.z).symm;have N:¬ ((F.n:Int)≤i):=by omega
 have O:∃ Q X d9,parseV (F.sec i)=[.int .u32 Q,.bool X,.bool d9]∧(parseE (F.sec i)=0→Q=(getB (((F.sec i).drop 2).take 4):Nat)∧X=decide ((F.sec i)[8]? = some 0)∧d9 = !decide ((F.sec i)[9]? = some 255)):=by
  unfold parseV;split
  ·exact ⟨_,_,_,rfl,fun _=>⟨rfl,rfl,rfl⟩⟩
  ·rename_i hc;exact ⟨_,_,_,rfl,fun h=>absurd h hc⟩
 obtain ⟨Q,X,d9,a0,a6⟩:=O;rw [a0] at d;have J:F.look i=lookB (F.sec i) x:=by unfold Fl.look; rw [hx]; rfl
 have an:i*F.z≤1000000000:=by omega
 rw [J];unfold lookB;generalize (F.sec i).map u8V=Y at *;generalize i*F.z=q at *;by_cases c1:blankB (F.sec i)=true
 ·rw [if_pos c1];simp (disch:=omega) [bg t564,code564,p,j,y,d,A,c1,G,N,D,Sec.cells]
 ·rw [if_neg c1];by_cases c2:parseE (F.sec i)=0
  ·obtain ⟨rfl,rfl,rfl⟩:=a6 c2;rw [c2] at d;simp only [c2,true_and];generalize ((getB (((F.sec i).drop 2).take 4):Nat):Int)=Q at *;by_cases c3:(F.sec i)[8]? = some 0
   ·by_cases U:(F.sec i)[9]? = some 255
    ·rw [if_pos ⟨c3,U⟩];simp (disch:=omega) [bg t564,code564,p,j,y,d,A,c1,c3,U,G,N,D,Sec.cells]
    ·rw [if_neg (fun h=>U h.2)];simp (disch:=omega) [bg t564,code564,p,j,y,d,A,c1,c3,U,G,N,D,Sec.cells]
   ·rw [if_neg (fun h=>c3 h.1)];simp (disch:=omega) [bg t564,code564,p,j,y,d,A,c1,c3,G,N,D,Sec.cells]
  ·rw [if_neg (fun h=>c2 h.1)];have aa:¬ ((parseE (F.sec i):Int)=0):=by omega
   generalize (parseE (F.sec i):Int)=e at *;simp (disch:=omega) [bg t564,code564,p,j,y,d,A,c1,aa,G,N,D,Sec.cells]
end
end
end Go.Abs.AbsBlb

namespace Go.Abs.AbsBlb
open Go.Abs.Short
def Fl.prog (F:Fl) (a:Nat) (l:Bs):Fl:={ F with b:=spliceB F.b a l }
def Fl.erase (F:Fl) (i:Nat):Fl:={ F with b:=eraseB F i,w:=F.w.set i ((F.w[i]?).getD 0+1) }
structure FlF (I:FI) (H H':List AObj):Prop where
 len:H.length≤H'.length
 keep:∀ (k:Nat) (o:AObj),H[k]? = some o→k≠I.fb→k≠I.fw→H'[k]? = some o
section
variable {H H' H'':List AObj} {b w:Nat} {I:FI} {F:Fl}
theorem FlF.refl:FlF I H H:=⟨aj _,fun _ _ h _ _=>h⟩
theorem FlF.trans (h:FlF I H H') (k:FlF I H' H''):FlF I H H'':=⟨de h.len k.len,fun i o ho h1 h2=>k.keep i o (h.keep i o ho h1 h2) h1 h2⟩
theorem FlF.app (h:FlF I H H') (X:List AObj):FlF I H (H'++X):=⟨by rw [au]; have:=h.len; omega,fun i o ho h1 h2=>by have:=h.keep i o ho h1 h2;rw [ag (ah this)]; exact this⟩
theorem FlA.app (h:FlA H I F) (Y:List AObj):FlA (H++Y) I F:=h.keep fun i o ho _=>by rw [ag (ah ho)]; exact ho
theorem p558 (h:FlA H I F) {p o n a:Nat} {c:Option Nat} {l:Bs} (C:SlB H p o n l) (D:0 < n) (j:a+n≤F.b.length) (y:bitsOk l (F.b.drop a)=true) (A:b≤I.fb) (hc:n≤c.getD n) :
  ∃ H',FlF I H H'∧FlA H' I (F.prog a l)∧H'.length=H.length∧∀ w,xCall T 558 [.ptr (some (I.fl,0)),.int .i64 a,.slice (some (p,o)) n c] ⟨H,b,w⟩=some (.int .i64 0,⟨H',b,min w I.fb⟩):=by
 obtain ⟨q,X,G,J⟩:=C;have L:=h.total;refine ⟨H.set I.fb (.cells 1 ((spliceB F.b a l).map u8V)),⟨by rw [az]; exact aj _,fun k o ho h1 _=>by rw [aq (fun e=>h1 e.symm)]; exact ho⟩,?_,az,fun w=>?_⟩
 ·have d:(spliceB F.b a l).length=F.b.length:=gw (by rw [q]; exact j);refine ⟨?_,ke h.b,?_,by unfold Fl.prog; simp only; rw [d]; exact h.bl,h.wl,h.nb,h.lb,h.wb,h.ne,fun c hc=>by unfold Fl.prog; simp only; rw [d]; exact h.cbo c hc,h.cwo⟩
  ·rw [aq (fun e=>h.nes.1 e.symm),h.f];unfold Fl.cells Fl.prog;simp only [d]
  ·rw [aq h.ne,h.w]; rfl
 ·rw [s558 h G J q D (by omega) (by omega) A hc,if_pos j,if_pos y]
theorem p611 (h:FlA H I F) {i x:Nat} (hx:F.w[i]? = some x) (A:x < F.lim) (C:0 < F.z) (j:b≤I.fb∧b≤I.fw) :
  ∃ H',FlF I H H'∧FlA H' I (F.erase i)∧H'.length=H.length∧∀ w,xCall T 611 [.ptr (some (I.fl,0)),.int .i64 i] ⟨H,b,w⟩=some (.int .i64 0,⟨H',b,min w (min I.fw I.fb)⟩):=by
 have hi:i < F.n:=by have:=ah hx; have:=h.wl; omega
 obtain ⟨D,p⟩:=h.sec_len hi;have G:=h.lb;refine ⟨(H.set I.fw (.cells 1 ((F.w.set i (x+1)).map natV))).set I.fb (.cells 1 ((eraseB F i).map u8V)),⟨by rw [az,az]; exact aj _,fun k o ho h1 h2=>by rw [aq (fun e=>h1 e.symm),aq (fun e=>h2 e.symm)]; exact ho⟩,?_,by rw [az,az],fun w=>?_⟩
 ·have d:(eraseB F i).length=F.b.length:=gw (by rw [bq]; exact p);have q:F.w.set i ((F.w[i]?).getD 0+1)=F.w.set i (x+1):=by rw [hx]; rfl
  unfold Fl.erase;rw [q];refine ⟨?_,?_,?_,by simp only; rw [d]; exact h.bl,by simp only; rw [az]; exact h.wl,h.nb,h.lb,?_,h.ne,fun c hc=>by simp only; rw [d]; exact h.cbo c hc,fun c hc=>by simp only; rw [az]; exact h.cwo c hc⟩
  ·rw [aq (fun e=>h.nes.1 e.symm),aq (fun e=>h.nes.2 e.symm),h.f];unfold Fl.cells;simp only [d,az]
  ·exact ke (by rw [aq (fun e=>h.ne e.symm)]; exact h.b)
  ·rw [aq h.ne]; exact ke h.w
  ·intro y J;rcases List.mem_or_eq_of_mem_set J with h1 | h1
   ·exact h.wb y h1
   ·omega
 ·rw [s611 h hx C j,if_neg (by omega)]
theorem xr (own:Bs):bitsOk [0] own=true:=by
 cases own with
 | nil=>rfl
 | cons x r =>
  show (decide ((0:UInt8) &&& ~~~x=0) && true)=true
  simp
theorem vz:∀ (l own:Bs),(∀ j,j < l.length→own[j]? = some 255)→bitsOk l own=true
 | [],own,h=>rfl
 | x :: l,[],h=>rfl
 | x :: l,y :: own,h=>by
  have h0:y=255:=by simpa using h 0 (by simp)
  subst h0
  have d:=vz l own fun j e=>by have:=h (j+1) (by rw [cq]; omega);simpa using this
  unfold bitsOk at d ⊢;rw [List.zip_cons_cons,List.all_cons,d]
  have:(x &&& ~~~(255:UInt8))=0:=by rw [show ~~~(255:UInt8)=0 from rfl]; simp
  simp [this]
theorem qu {l:Bs} {j:Nat} (h:blankB l=true) (d:j < l.length):l[j]? = some 255:=by obtain ⟨x,hx⟩:∃ x,l[j]? = some x:=⟨_,ai d⟩;have:=ap.1 h x (br hx);rw [hx,of_decide_eq_true this]
theorem blank_of {l:Bs} (h:∀ j,j < l.length→l[j]? = some 255):blankB l=true:=by apply ap.2;intro x hx;obtain ⟨j,d⟩:=gu hx;have:=h j (ah d);rw [d] at this;simpa using this
def Fl.clear (F:Fl) (i:Nat):Fl:=if blankB (F.sec i) then F else F.erase i
def Fl.opened (F:Fl) (i seq:Nat):Fl:=((F.clear i).prog (i*F.z) (headB seq)).prog (i*F.z+8) [0]
theorem lg {B:Bs} {a j:Nat} {l:Bs} (h:a+l.length≤B.length):(spliceB B a l)[j]? = if j < a then B[j]? else if j < a+l.length then l[j - a]? else B[j]?:=by
 unfold spliceB;have d:(B.take a).length=a:=by rw [db]; omega
 by_cases c1:j < a
 ·rw [if_pos c1,ba,ag (by omega),eo,if_pos c1]
 ·rw [if_neg c1];by_cases c2:j < a+l.length
  ·rw [if_pos c2,ag (by rw [au]; omega),aw (by omega),d]
  ·rw [if_neg c2,aw (by rw [au]; omega),dt,au,d];congr 1; omega
theorem Fl.sec_get {F:Fl} {i j:Nat} (d:j < F.z):(F.sec i)[j]? = F.b[i*F.z+j]?:=by unfold Fl.sec;rw [eo,if_pos d,dt]
theorem uz {F:Fl} {i j:Nat} (d:i*F.z+F.z≤F.b.length):(F.erase i).b[j]? = if i*F.z≤j∧j < i*F.z+F.z then some 255 else F.b[j]?:=by
 show (spliceB F.b (i*F.z) (List.replicate F.z 255))[j]? = _
 rw [lg (by rw [bq]; exact d),bq];by_cases c1:j < i*F.z
 ·rw [if_pos c1,if_neg (by omega)]
 ·rw [if_neg c1];by_cases c2:j < i*F.z+F.z
  ·rw [if_pos c2,if_pos ⟨by omega,c2⟩,ft,if_pos (by omega)]
  ·rw [if_neg c2,if_neg (by omega)]
theorem clear_get (h:FlA H I F) {i j:Nat} (hi:i < F.n):(F.clear i).b[j]? = if i*F.z≤j∧j < i*F.z+F.z then some 255 else F.b[j]?:=by
 obtain ⟨e,d⟩:=h.sec_len hi;unfold Fl.clear;split
 ·rename_i hb;split
  ·rename_i p;have h1:=qu hb (j:=j - i*F.z) (by omega);rw [Fl.sec_get (by omega)] at h1;rw [← h1]; congr 1; omega
  ·rfl
 ·exact uz d
theorem qv (F:Fl) (i:Nat):(F.clear i).n=F.n∧(F.clear i).z=F.z∧(F.clear i).lim=F.lim:=by unfold Fl.clear;split <;> exact ⟨rfl,rfl,rfl⟩
theorem open_tail {H1:List AObj} (h:FlA H I F) {i seq:Nat} (hi:i < F.n) (hz:12≤F.z) (hs:seq < 4294967296) (e:b≤I.fb) (J:FlF I H H1) (h1:FlA H1 I (F.clear i)) :
  ∃ d p,FlF I H p∧FlA p I (F.opened i seq)∧(∀ w,xCall T 573 [.ptr (some (I.fl,0))] ⟨H1,b,w⟩=some (.agg [.int .i64 F.n,.int .i64 F.z,.int .i64 F.lim],⟨H1,b,w⟩)) ∧
   (∀ w,xCall T 630 [.int .u32 seq] ⟨H1,b,w⟩=some (.slice (some (H1.length,0)) 8 none,⟨H1++[.cells 1 ((headB seq).map u8V)],b,w⟩)) ∧
   (∀ w,xCall T 558 [.ptr (some (I.fl,0)),.int .i64 (i*F.z:Nat),.slice (some (H1.length,0)) 8 none] ⟨H1++[.cells 1 ((headB seq).map u8V)],b,w⟩=some (.int .i64 0,⟨d,b,min w I.fb⟩)) ∧
   (∀ w,xCall T 558 [.ptr (some (I.fl,0)),.int .i64 ((i*F.z:Nat)+8),.slice (some (d.length,0)) 1 (some 1)] ⟨d++[.cells 1 [.int .u8 0]],b,w⟩=some (.int .i64 0,⟨p,b,min w I.fb⟩)):=by
 obtain ⟨D,G,L⟩:=qv F i;have N:=ah h1.b;obtain ⟨O,y⟩:=h1.sec_len (i:=i) (by rw [D]; exact hi);rw [G] at y;have A:b≤H1.length:=by omega
 have a1:=h1.app [.cells 1 ((headB seq).map u8V)]
 have Q:bitsOk (headB seq) ((F.clear i).b.drop (i*F.z))=true:=vz _ _ fun j U=>by rw [jo] at U;rw [dt,clear_get h hi,if_pos (by omega)]
 obtain ⟨d,V,h2,l2,W⟩:=p558 (b:=b) (c:=none) a1 (SlB.whole (q:=H1.length) (gc _ _) (jo seq)) (by omega) (a:=i*F.z) (by omega) Q e (aj _);have a2:=h2.app [.cells 1 [.int .u8 0]];have C:((F.clear i).prog (i*F.z) (headB seq)).b.length=(F.clear i).b.length:=gw (by rw [jo]; omega);obtain ⟨p,X,h3,l3,x3⟩:=p558 (b:=b) (c:=some 1) a2 (SlB.whole (q:=d.length) (n:=1) (l:=[0]) (gc _ _) rfl) (by omega) (a:=i*F.z+8) (by rw [C]; omega) (xr _) e (aj _);refine ⟨d,p,?_,h3,?_,fun w=>s630 hs A,W,?_⟩
 ·exact ((J.app _).trans V |>.app _).trans X
 ·intro w;have:=s573 (b:=b) (w:=w) h1;rw [D,G,L] at this;exact this
 ·exact x3
section
attribute [-simp] getElem?_pos getElem?_neg List.all_eq_true
attribute [local simp] qZ qS nltT nltF iltT iltF ileT nleT di
theorem p618 (h:FlA H I F) {i seq x:Nat} (hx:F.w[i]? = some x) (e:(F.look i).st=0∨((F.look i).st=1∧x < F.lim)) (D:12≤F.z) (hs:seq < 4294967296) (p:b≤I.fb∧b≤I.fw) :
  ∃ H',∃ G:Nat→Nat,FlF I H H'∧FlA H' I (F.opened i seq)∧(∀ w,G w≤I.fb∧min w b≤G w)∧∀ w,xCall T 618 [.ptr (some (I.fl,0)),.int .i64 i,.int .u32 seq] ⟨H,b,w⟩=some (.int .i64 0,⟨H',b,G w⟩):=by
 have hi:i < F.n:=by have:=ah hx; have:=h.wl; omega
 have X:=ah h.b;have a0:=ah h.w;have J:b≤H.length:=by omega
 have d:=fun w=>s564 (w:=w) h hi D J
 have A:(i:Int)*(F.z:Int)=((i*F.z:Nat):Int):=(Int.natCast_mul i F.z).symm;have a6:=(h.sec_len hi).2;have ht:=h.total
 have j:blankB (F.sec i)=true ↔ (F.look i).st=0:=by
  unfold Fl.look lookB;constructor
  ·intro hb; rw [if_pos hb]
  ·intro h0;apply Classical.byContradiction;intro hb;rw [if_neg hb] at h0;split at h0 <;> cases h0
 rcases e with e | ⟨e,L⟩
 ·have y:F.clear i=F:=by unfold Fl.clear; rw [if_pos (j.2 e)]
  obtain ⟨H2,N,C,O,x1,Q,U,V⟩:=open_tail (H1:=H) (b:=b) h hi D hs p.1 FlF.refl (by rw [y]; exact h);refine ⟨N,fun w=>min w I.fb,C,O,fun w=>by show min w I.fb≤_∧_≤min w I.fb; omega,fun w=>?_⟩;have W:=C.len;unfold Sec.cells at d;rw [e] at d;generalize (F.look i).seq=y1 at *;generalize (F.look i).er=y2 at *;generalize (headB seq).map u8V=Y at *;generalize i*F.z=q at *;simp (disch:=omega) [bg t618,code618,d,x1,Q,U,V,A]
 ·have y:F.clear i=F.erase i:=by unfold Fl.clear;rw [if_neg (fun hb=>by rw [j.1 hb] at e; cases e)]
  obtain ⟨H1,k1,h1,l1,x0⟩:=p611 (b:=b) h hx L (by omega) p;obtain ⟨H2,N,C,O,x1,Q,U,V⟩:=open_tail (H1:=H1) (b:=b) h hi D hs p.1 k1 (by rw [y]; exact h1);refine ⟨N,fun w=>min w (min I.fw I.fb),C,O,fun w=>by show min w (min I.fw I.fb)≤_∧_≤min w (min I.fw I.fb); omega,fun w=>?_⟩;have W:=C.len;unfold Sec.cells at d;rw [e] at d;generalize (F.look i).seq=y1 at *;generalize (F.look i).er=y2 at *;generalize (headB seq).map u8V=Y at *;generalize i*F.z=q at *;simp (disch:=omega) [bg t618,code618,d,x0,x1,Q,U,V,A]
theorem p612 (h:FlA H I F) {i:Nat} (hi:i < F.n) (O:12≤F.z) (e:b≤I.fb∧b≤I.fw) :
  ∃ H',∃ j:Nat→Nat,FlF I H H'∧FlA H' I (F.prog (i*F.z+9) [0])∧(∀ w,j w≤I.fb∧min w b≤j w)∧∀ w,xCall T 612 [.ptr (some (I.fl,0)),.int .i64 i] ⟨H,b,w⟩=some (.int .i64 0,⟨H',b,j w⟩):=by
 have A:=ah h.b;have C:=(h.sec_len hi).2;have Q:=h.total;have p:(i:Int)*(F.z:Int)=((i*F.z:Nat):Int):=(Int.natCast_mul i F.z).symm;have d:=fun w=>s573 (b:=b) (w:=w) h
 obtain ⟨D,G,J,U,y⟩:=p558 (b:=b) (c:=some 1) (h.app [.cells 1 [.int .u8 0]]) (SlB.whole (q:=H.length) (n:=1) (l:=[0]) (gc _ _) rfl) (by omega) (a:=i*F.z+9) (by omega) (xr _) e.1 (aj _);refine ⟨D,fun w=>min w I.fb,(FlF.refl.app _).trans G,J,fun w=>by show min w I.fb≤_∧_≤min w I.fb; omega,fun w=>?_⟩;have L:¬ ((F.n:Int)≤i):=by omega
 have N:((i*F.z+9:Nat):Int)=((i*F.z:Nat):Int)+9:=by omega
 rw [N] at y;generalize i*F.z=q at *;simp (disch:=omega) [bg t612,code612,d,y,p,L]
end
end
end Go.Abs.AbsBlb

namespace Go.Abs.AbsBlb
open Go.Abs.Short
theorem finish_tup {O P:List AObj} {b w e q n:Nat} {cs:List AVal} {c:Option Nat} {W:Nat} {k:IntKind} {x:Int} (G:P[q]? = some (.cells e cs)) (C:AVal.idsL cs=[]) (J:∀ g,AVal.renL g cs=cs) (h1:O.length≤q) (L:O.length≤W) :
  dj ⟨O,b,w⟩ (.tuple [.slice (some (q,0)) n c,.int k x]) ⟨P,b,W⟩=(.tuple [.slice (some (O.length,0)) n c,.int k x],⟨O++[.cells e cs],b,w⟩):=by
 have N:AVal.under (⟨O,b,w⟩:Heap).size (.tuple [.slice (some (q,0)) n c,.int k x])=false:=by
  have:¬ q < O.length:=by omega
  simp [AVal.under,AVal.unders,Heap.size,this]
 have y:(⟨P,b,W⟩:Heap).get q=some (.cells e cs):=G
 have p:(AVal.tuple [.slice (some (q,0)) n c,.int k x]).ids=[q]:=by simp [AVal.ids,AVal.idsL]
 have d:reach ⟨P,b,W⟩ (⟨O,b,w⟩:Heap).size 1000 (AVal.tuple [.slice (some (q,0)) n c,.int k x]).ids []=[q]:=by rw [p];rw [reach,if_neg (by show ¬ q < O.length; omega),if_neg (by simp),y];simp only [b8,ed,AObj.ids,C,dw];rfl
 refine (zp (show (⟨O,b,w⟩:Heap).size≤(⟨P,b,W⟩:Heap).wmin from L) N d fun j D=>?_).trans ?_
 ·simp only [p,d0,List.flatMap_nil,y,b8,ed,AObj.ids,C,gt,cj,List.not_mem_nil,or_false] at D;subst D;exact .inr (dp _)
 ·have key:∀ g:Nat→Nat,g q=O.length→((AVal.tuple [.slice (some (q,0)) n c,.int k x]).ren g,(⟨O++[AObj.cells e cs],b,w⟩:Heap))=(.tuple [.slice (some (O.length,0)) n c,.int k x],⟨O++[.cells e cs],b,w⟩):=fun g A=>by simp only [AVal.ren,AVal.renL,A]
  simp only [Heap.size,bi,List.map_nil,y,b8,ed,AObj.ren,J];exact key _ ((if_neg (show ¬ q < O.length by omega)).trans (by simp [idxIn]))
structure RecU where
 kind:Nat
 txn:Nat
 key:Bs
 blob:Bs
 count:Nat
def rightB (k txn key blob count:Nat):Bool :=
 !decide (txn=0) && (if k=1 then decide (1≤key) && decide (key≤64) && decide (count=0) && decide (blob≤4096)
  else if k=2 then decide (1≤key) && decide (key≤64) && decide (count=0) && decide (blob=0)
  else if k=3 then decide (key=0) && decide (blob=0) && decide (count≤16) else false)
def RecU.right (r:RecU):Bool:=rightB r.kind r.txn r.key.length r.blob.length r.count
def RecU.b0 (r:RecU):Bs:=[UInt8.ofNat r.kind]++putB r.txn 4++putB r.key.length 1++putB r.blob.length 2++putB r.count 1
def RecU.b1 (r:RecU):Bs:=r.b0++putB (nat16 r.b0) 2
def RecU.b2 (r:RecU):Bs:=r.b1++r.key++r.blob
def recB (r:RecU):Bs:=r.b2++putB (nat32 r.b2) 4
def RecU.size (r:RecU):Nat:=16+r.key.length+r.blob.length
def RecU.cells (r:RecU) (v:AVal):List AVal:=[.int .i64 r.kind,.int .u32 r.txn,.str r.key,v,.int .i64 r.count]
theorem RecU.len0 (r:RecU):r.b0.length=9:=by unfold RecU.b0; simp [md]
theorem RecU.len1 (r:RecU):r.b1.length=11:=by unfold RecU.b1; rw [au,r.len0,md]
theorem RecU.len2 (r:RecU):r.b2.length=11+r.key.length+r.blob.length:=by unfold RecU.b2; rw [au,au,r.len1]
theorem zab (r:RecU):(recB r).length+1=r.size:=by unfold recB RecU.size; rw [au,r.len2,md]; omega
def BlobV (H:List AObj) (v:AVal) (l:Bs):Prop:=∃ a c,v = .slice a l.length c∧(∀ p o,a=some (p,o)→p < H.length)∧(l=[]∨∃ p o,a=some (p,o)∧SlB H p o l.length l∧l.length≤c.getD l.length)
section
variable {H P:List AObj} {b w:Nat}
theorem BlobV.row {v:AVal} {l:Bs} (h:BlobV H v l):il 1 ⟨H,b,w⟩ v=some (l.map u8V):=by
 obtain ⟨a,c,rfl,e,h⟩:=h;rcases h with rfl | ⟨p,o,rfl,h,-⟩
 ·exact zb0
 ·by_cases d:l=[]
  ·subst d; exact zb0
  ·exact h.row (kg.2 d) c
theorem BlobV.len {v:AVal} {l:Bs} (h:BlobV H v l):alen v=l.length:=by obtain ⟨a,c,rfl,-,-⟩:=h; rfl
theorem BlobV.mono {v:AVal} {l:Bs} {H':List AObj} (h:BlobV H v l) (d:H.length≤H'.length) (j:∀ p o n c,v = .slice (some (p,o)) n c→∀ x,H[p]? = some x→H'[p]? = some x):BlobV H' v l:=by
 obtain ⟨a,c,rfl,e,h⟩:=h;refine ⟨a,c,rfl,fun p o h=>fg (e p o h) d,?_⟩;rcases h with rfl | ⟨p,o,rfl,h,h2⟩
 ·exact .inl rfl
 ·exact .inr ⟨p,o,rfl,h.mono (j _ _ _ _ rfl),h2⟩
theorem app_row {q n:Nat} {l k:Bs} {y:AVal} (p:Pre H P) (e:P[q]? = some (.cells 1 (l.map u8V))) (L:l.length=n) (A:0 < n) (C:H.length≤q) (hb:b≤H.length) (G:n+k.length≤1000000000) (J:∀ w,il 1 ⟨P,b,w⟩ y=some (k.map u8V)) (hm:alen y=k.length) :
  ∃ d P',∃ j:Nat→Nat,Pre H P'∧P'[d]? = some (.cells 1 ((l++k).map u8V))∧H.length≤d∧(∀ w,H.length≤w→H.length≤j w)∧((k=[]∧P'=P∧d=q∧j=fun w=>w)∨(k≠[]∧P'.length=P.length+1∧d=P.length∧j=fun w=>min w q))∧∀ w,d7 1 1 ⟨P,b,w⟩ (.slice (some (q,0)) n none) y=some (.slice (some (d,0)) (n+k.length) none,⟨P',b,j w⟩):=by
 have N:=ah e;have hr:∀ w,il 1 ⟨P,b,w⟩ (.slice (some (q,0)) n none)=some (l.map u8V):=fun w=>SlB.row (SlB.whole e L) A _
 by_cases h0:k.length=0
 ·obtain rfl:k=[]:=bn h0;refine ⟨q,P,fun w=>w,p,by rw [gt]; exact e,C,fun w h=>h,.inl ⟨rfl,rfl,rfl,rfl⟩,fun w=>?_⟩;unfold d7;simp only [hr,J,hm,aApp];exact if_pos rfl
 ·refine ⟨P.length,P.set q .dead++[.cells 1 ((l++k).map u8V)],fun w=>min w q,(p.set .dead C).trans (Pre.app _ _),?_,p.len,fun w h=>Nat.le_min.2 ⟨h,C⟩,.inr ⟨fun O=>h0 (by rw [O]; rfl),by rw [au,az]; rfl,rfl,rfl⟩,fun w=>?_⟩
  ·rw [aw (by rw [az]; exact aj _),az,qh]; rfl
  ·have D:rowIs ⟨P,b,w⟩ q 1=true:=by unfold rowIs Heap.get;simp only [e];rfl
   unfold d7;simp only [hr,J,hm,aApp];refine (if_neg h0).trans ((if_pos ⟨by omega,by omega⟩).trans ((if_neg (by simp)).trans ((if_pos ⟨by show b≤q; omega,D⟩).trans ?_)));simp [Heap.push,Heap.size,Heap.put]
section
attribute [-simp] getElem?_pos getElem?_neg List.all_eq_true
attribute [local simp] qZ qS nltT nltF iltT iltF ileT nleT di
theorem s614 {k txn key blob count:Nat} {y:AVal} {s:Bs}:xCall T 614 [.agg [.int .i64 k,.int .u32 txn,.str s,y,.int .i64 count],.int .i64 key,.int .i64 blob] ⟨H,b,w⟩=some (.bool (rightB k txn key blob count),⟨H,b,w⟩):=by
 unfold rightB;by_cases h0:txn=0
 ·subst h0;simp (disch:=omega) [bg t614,code614]
 ·have d:¬ ((txn:Int)=0):=by omega
  by_cases D:k=1
  ·subst D;by_cases c1:1≤key
   ·by_cases c2:key≤64
    ·by_cases c3:count=0
     ·subst c3;by_cases G:blob≤4096
      ·simp (disch:=omega) [bg t614,code614,h0,d,c1,c2,G]
      ·simp (disch:=omega) [bg t614,code614,h0,d,c1,c2,G]
     ·have C:¬ ((count:Int)=0):=by omega
      simp (disch:=omega) [bg t614,code614,h0,d,c1,c2,c3,C]
    ·have j:¬ ((key:Int)≤64):=by omega
     simp (disch:=omega) [bg t614,code614,h0,d,c1,c2,j]
   ·have e:key=0:=by omega
    subst e;simp (disch:=omega) [bg t614,code614,h0,d]
  ·by_cases J:k=2
   ·subst J;by_cases c1:1≤key
    ·by_cases c2:key≤64
     ·by_cases c3:count=0
      ·subst c3;by_cases G:blob=0
       ·subst G;simp (disch:=omega) [bg t614,code614,h0,d,c1,c2]
       ·have N:¬ ((blob:Int)=0):=by omega
        simp (disch:=omega) [bg t614,code614,h0,d,c1,c2,G,N]
      ·have C:¬ ((count:Int)=0):=by omega
       simp (disch:=omega) [bg t614,code614,h0,d,c1,c2,c3,C]
     ·have j:¬ ((key:Int)≤64):=by omega
      simp (disch:=omega) [bg t614,code614,h0,d,c1,c2,j]
    ·have e:key=0:=by omega
     subst e;simp (disch:=omega) [bg t614,code614,h0,d]
   ·by_cases L:k=3
    ·subst L;by_cases c1:key=0
     ·subst c1;by_cases c2:blob=0
      ·subst c2;by_cases c3:count≤16
       ·simp (disch:=omega) [bg t614,code614,h0,d,c3]
       ·simp (disch:=omega) [bg t614,code614,h0,d,c3]
      ·have j:¬ ((blob:Int)=0):=by omega
       simp (disch:=omega) [bg t614,code614,h0,d,c2,j]
     ·have e:¬ ((key:Int)=0):=by omega
      have c0:(1:Int)≤key:=by omega
      by_cases c2:(key:Int)≤64
      ·by_cases c3:(count:Int)=0
       ·simp (disch:=omega) [bg t614,code614,h0,d,c1,e,c0,c2,c3]
       ·simp (disch:=omega) [bg t614,code614,h0,d,c1,e,c0,c2,c3]
      ·simp (disch:=omega) [bg t614,code614,h0,d,c1,e,c0,c2]
    ·have p:¬ ((k:Int)=1):=by omega
     have q:¬ ((k:Int)=2):=by omega
     have A:¬ ((k:Int)=3):=by omega
     by_cases c1:(1:Int)≤key
     ·by_cases c2:(key:Int)≤64
      ·by_cases c3:(count:Int)=0
       ·simp (disch:=omega) [bg t614,code614,h0,d,D,J,L,p,q,A,c1,c2,c3]
       ·simp (disch:=omega) [bg t614,code614,h0,d,D,J,L,p,q,A,c1,c2,c3]
      ·simp (disch:=omega) [bg t614,code614,h0,d,D,J,L,p,q,A,c1,c2]
     ·simp (disch:=omega) [bg t614,code614,h0,d,D,J,L,p,q,A,c1]
end
theorem rightB_lens {k t key blob count:Nat} (h:rightB k t key blob count=true):k≤3∧key≤64∧blob≤4096∧count≤16:=by
 unfold rightB at h;by_cases d:k=1
 ·simp [d] at h;omega
 ·by_cases e:k=2
  ·simp [e] at h;omega
  ·by_cases j:k=3
   ·simp [j] at h;omega
   ·simp [d,e,j] at h
theorem zaw {r:RecU} (h:r.right=true):r.kind≤3∧r.key.length≤64∧r.blob.length≤4096∧r.count≤16:=rightB_lens h
section
attribute [-simp] getElem?_pos getElem?_neg List.all_eq_true
attribute [local simp] qZ qS nltT nltF iltT iltF ileT nleT di
theorem s596 {r:RecU} {v:AVal} (hv:BlobV H v r.blob) (hr:r.right=true) (ht:r.txn < 4294967296) (D:b≤H.length):xCall T 596 [.agg (r.cells v)] ⟨H,b,w⟩=some (.tuple [.slice (some (H.length,0)) (recB r).length none,.int .i64 0],⟨H++[.cells 1 ((recB r).map u8V)],b,w⟩):=by
 obtain ⟨l0,l1,l2,l3⟩:=zaw hr;have e:=fun w=>s614 (H:=H) (b:=b) (w:=w) (k:=r.kind) (txn:=r.txn) (key:=r.key.length) (blob:=r.blob.length) (count:=r.count) (y:=v) (s:=r.key)
 have a0:rightB r.kind r.txn r.key.length r.blob.length r.count=true:=hr;rw [a0] at e;have wk:=zaz r.kind;have aa:=hv.len;obtain ⟨V,pc,ac,J,-⟩:=id hv
 have C:((AVal.slice V r.blob.length pc).ids.all fun i=>decide (i < H.length+6))=true:=by
  cases V with
  | none=>rfl
  | some p =>
   have:=J p.1 p.2 rfl;simp only [AVal.ids,List.all_cons,List.all_nil,Bool.and_true,decide_eq_true_eq];omega
 have j:∀ m ds,((AVal.slice V r.blob.length pc).ids.all (okId (H.length+6) m ds))=true:=fun m ds=>by
  cases V with
  | none=>rfl
  | some p =>
   have:=J p.1 p.2 rfl;simp only [AVal.ids,List.all_cons,List.all_nil,Bool.and_true];have G:p.1 < H.length+6:=by omega
   unfold okId;simp [G]
 have h1:=fun w=>s385 (H:=H++[.cells 1 [u8V (UInt8.ofNat r.kind)]]) (b:=b) (w:=w) (p:=H.length) (o:=0) (n:=1) (l:=[UInt8.ofNat r.kind]) (v:=r.txn) (k:=4) (c:=some 1) (SlB.whole (gc _ _) rfl) (by omega) (by omega) (by rw [au]; omega) (by omega) (by omega) (aj _)
 have h2:=fun w=>s385 (H:=H++[.cells 1 [u8V (UInt8.ofNat r.kind)],.cells 1 (([UInt8.ofNat r.kind]++putB r.txn 4).map u8V)]) (b:=b) (w:=w) (p:=H.length+1) (o:=0) (n:=5) (v:=r.key.length) (k:=1) (c:=none) (SlB.whole (jv H _ 1) (by simp [md])) (by omega) (by omega) (by rw [au]; omega) (by omega) (by omega) (aj _)
 have X:=fun w=>s385 (H:=H++[.cells 1 [u8V (UInt8.ofNat r.kind)],.cells 1 (([UInt8.ofNat r.kind]++putB r.txn 4).map u8V),.cells 1 (([UInt8.ofNat r.kind]++putB r.txn 4++putB r.key.length 1).map u8V)]) (b:=b) (w:=w) (p:=H.length+2) (o:=0) (n:=6) (v:=r.blob.length) (k:=2) (c:=none) (SlB.whole (jv H _ 2) (by simp [md])) (by omega) (by omega) (by rw [au]; omega) (by omega) (by omega) (aj _)
 have L:=fun w=>s385 (H:=H++[.cells 1 [u8V (UInt8.ofNat r.kind)],.cells 1 (([UInt8.ofNat r.kind]++putB r.txn 4).map u8V),.cells 1 (([UInt8.ofNat r.kind]++putB r.txn 4++putB r.key.length 1).map u8V),.cells 1 (([UInt8.ofNat r.kind]++putB r.txn 4++putB r.key.length 1++putB r.blob.length 2).map u8V)]) (b:=b) (w:=w) (p:=H.length+3) (o:=0) (n:=8) (v:=r.count) (k:=1) (c:=none) (SlB.whole (jv H _ 3) (by simp [md])) (by omega) (by omega) (by rw [au]; omega) (by omega) (by omega) (aj _)
 have e0:[UInt8.ofNat r.kind]++putB r.txn 4++putB r.key.length 1++putB r.blob.length 2++putB r.count 1=r.b0:=rfl;rw [e0] at L;generalize AObj.cells 1 (([UInt8.ofNat r.kind]++putB r.txn 4++putB r.key.length 1++putB r.blob.length 2).map u8V)=o3 at *;generalize AObj.cells 1 (([UInt8.ofNat r.kind]++putB r.txn 4++putB r.key.length 1).map u8V)=o2 at *;generalize AObj.cells 1 (([UInt8.ofNat r.kind]++putB r.txn 4).map u8V)=o1 at *;have S0:SlB (H++[.cells 1 [u8V (UInt8.ofNat r.kind)],o1,o2,o3,.cells 1 (r.b0.map u8V)]) (H.length+4) 0 9 r.b0:=SlB.whole (jv H _ 4) r.len0;have d:=fun w=>s602 (b:=b) (w:=w) (c:=none) S0 (by omega) (by omega)
 obtain ⟨n1,n2⟩:=tj r.b0;rw [n1] at d;have N:=fun w=>s385 (b:=b) (w:=w) (c:=none) (v:=nat16 r.b0) (k:=2) S0 (by omega) (by omega) (by rw [au]; omega) (by omega) (by omega) (aj _)
 have e1:r.b0++putB (nat16 r.b0) 2=r.b1:=rfl;rw [e1] at N;have ad:Pre H (H++[.cells 1 [u8V (UInt8.ofNat r.kind)],o1,o2,o3,.cells 1 (r.b0.map u8V),.cells 1 (r.b1.map u8V)]):=Pre.app _ _;obtain ⟨q1,P1,x1,a1,a2,a3,a4,a6,a5⟩:=app_row (k:=r.key) (b:=b) (y:=.str r.key) (n:=11) ad (jv H _ 5) r.len1 (by omega) (by omega) D (by omega) (fun w=>rfl) rfl;have al:BlobV P1 v r.blob:=hv.mono a1.len fun _ _ _ _ _ x hx=>a1 _ _ hx
 obtain ⟨q2,P2,x2,b1,b2,b3,b4,b6,Q⟩:=app_row (k:=r.blob) (b:=b) (y:=v) (n:=11+r.key.length) a1 a2 (by rw [au,r.len1]) (by omega) a3 D (by omega) (fun w=>al.row) aa;have e2:r.b1++r.key++r.blob=r.b2:=rfl;rw [e2] at b2;have S2:SlB P2 q2 0 (11+r.key.length+r.blob.length) r.b2:=SlB.whole b2 r.len2;have A:=fun w=>s613 (b:=b) (w:=w) (c:=none) S2 (by omega) (by omega)
 obtain ⟨m1,m2⟩:=nat32_eq r.b2;rw [m1] at A;have G:=fun w=>s385 (b:=b) (w:=w) (c:=none) (v:=nat32 r.b2) (k:=4) S2 (by omega) (by omega) (de D b1.len) (by omega) (by omega) (aj _)
 have e3:r.b2++putB (nat32 r.b2) 4=recB r:=rfl;rw [e3] at G;have U:(recB r).length=11+r.key.length+r.blob.length+4:=by unfold recB; rw [au,r.len2,md]
 have hf:=fun w0=>finish_tup (k:=.i64) (x:=0) (O:=H) (P:=P2++[.cells 1 ((recB r).map u8V)]) (b:=b) (w:=w0) (W:=x2 H.length) (q:=P2.length) (n:=(recB r).length) (c:=none) (gc _ _) (ml _) (fun g=>ov g _) b1.len (b4 _ (aj _))
 rw [U] at hf;unfold RecU.cells;rw [ac] at e Q ⊢;simp only [au,cq,eq,dq,Nat.reduceAdd,fh,dw,ba,bf] at h1 h2 X L N d a5 G;generalize (recB r).map u8V=Y6 at *;generalize r.b1.map u8V=Y1 at *;generalize r.b0.map u8V=Y0 at *;rw [U];unfold u8V at h1 h2 X L N d a5;have w4:IntKind.u64.wrap (nat16 r.b0:Int)=nat16 r.b0:=n9 (by omega);have w5:IntKind.u64.wrap (nat32 r.b2:Int)=nat32 r.b2:=n9 (by omega);have w1:IntKind.u64.wrap (r.txn:Int)=r.txn:=n9 (by omega);have w2:IntKind.u64.wrap (r.key.length:Int)=r.key.length:=n9 (by omega);have w3:IntKind.u64.wrap (r.blob.length:Int)=r.blob.length:=n9 (by omega);have w6:IntKind.u64.wrap (r.count:Int)=r.count:=n9 (by omega);generalize UInt8.ofNat r.kind=kb at *;rcases a6 with ⟨hk,rfl,rfl,rfl⟩ | ⟨hk,k1,rfl,rfl⟩
 ·unfold u8V at Q;simp (disch:=omega) [bg t596,code596,-dj,-d7,e,wk,h1,h2,X,L,d,N,a5,Q,A,G,hf,w1,w2,w3,w4,w5,w6,C,j]
 ·simp only [au,cq,eq,dq,Nat.reduceAdd] at k1 a2 a5 Q;have k2:¬ P1.length=H.length+6:=by omega
  simp (disch:=omega) [bg t596,code596,-dj,-d7,e,wk,h1,h2,X,L,d,N,a5,Q,A,G,hf,w1,w2,w3,w4,w5,w6,C,j,k1,k2,a2,ml]
end
end
end Go.Abs.AbsBlb

namespace Go.Abs.AbsBlb
open Go.Abs.Short
abbrev RV:=RecU × AVal
def RV.cells (p:RV):List AVal:=p.1.cells p.2
def RV.ok (H:List AObj) (p:RV):Prop:=BlobV H p.2 p.1.blob∧p.1.key.length≤1000000∧p.1.blob.length≤1000000
def sizes (L:List RecU):Nat:=(L.map RecU.size).sum
section
variable {H:List AObj} {b w:Nat}
section
attribute [-simp] getElem?_pos getElem?_neg List.all_eq_true
attribute [local simp] qZ qS nltT nltF iltT iltF ileT nleT di
theorem s589 {r:RecU} {a:Option (Nat × Nat)} {c:Option Nat} (h1:r.key.length≤1000000) (h2:r.blob.length≤1000000):xCall T 589 [.agg (r.cells (.slice a r.blob.length c))] ⟨H,b,w⟩=some (.int .i64 (r.size:Nat),⟨H,b,w⟩):=by
 have e:((r.size:Nat):Int)=11+r.key.length+r.blob.length+5:=by unfold RecU.size; omega
 rw [e];unfold RecU.cells;simp (disch:=omega) [bg t589,code589]
theorem l579 {L:List RV} {a:Option (Nat × Nat)} {c:Option Nat} {y:AVal} (D:Row H 5 RV.cells L a) (N:L.length≤100) (q:∀ p ∈ L,RV.ok H p):∀ (j i w:Nat) (s:Nat),i+j=L.length→s≤i*3000000→∀ {β:Type} (k:AExit→St→Option β),
  xK T (.loop code579L0) ⟨[(0,.val y),(3,.val (.int .i64 s)),(7,.val (.slice a L.length c)),(8,.val (.int .i64 L.length)),(9,.val (.int .i64 i))],⟨H,b,w⟩⟩ (k:=⟨k⟩) =
   k (.exit 0) ⟨[(0,.val y),(3,.val (.int .i64 ((s+sizes ((L.drop i).map Prod.fst):Nat):Int)))],⟨H,b,w⟩⟩
 | 0,i,w,s,hi,hs,β,k=>by have hd:L.drop i=[]:=dk (by omega);rw [hd,b9];have O:s+sizes (([]:List RV).map Prod.fst)=s:=rfl;rw [O];simp (disch:=omega) [code579L0]
 | j+1,i,w,s,hi,hs,β,k=>by
  obtain ⟨x,hx⟩:∃ x,L[i]? = some x:=⟨_,ai (by omega)⟩;obtain ⟨bb,o,cs,rfl,A,e⟩:=D.at' (lx hx);obtain ⟨Q,G⟩:=e i x hx;obtain ⟨⟨xa,xc,U,-,-⟩,V,W⟩:=q x (br hx);have X:((i+1:Nat):Int)=(i:Int)+1:=by omega
  have a0:x.1.size≤3000000:=by unfold RecU.size; omega
  have J:=l579 (c:=c) (y:=y) D N q j (i+1) w (s+x.1.size) (by omega) (by omega) k;have e3:((s+x.1.size:Nat):Int)=(s:Int)+(x.1.size:Nat):=by omega
  rw [X,e3] at J;have d:=fun w=>s589 (H:=H) (b:=b) (w:=w) (r:=x.1) (a:=xa) (c:=xc) V W
  have C:RV.cells x=[.int .i64 x.1.kind,.int .u32 x.1.txn,.str x.1.key,.slice xa x.1.blob.length xc,.int .i64 x.1.count]:=by unfold RV.cells RecU.cells; rw [U]
  unfold RecU.cells at d;rw [C] at G
  have e4:s+sizes ((L.drop i).map Prod.fst)=s+x.1.size+sizes ((L.drop (i+1)).map Prod.fst):=by rw [iy hx,bi];unfold sizes;rw [bi,dz]; omega
  rw [e4,b9,← J];have a6:s≤300000000:=de hs (by omega);generalize ACode.loop code579L0=LL;generalize x.1.size=sz at *;simp (disch:=omega) [code579L0,A,Q,G,d]
end
theorem zav:∀ {L:List RV},(∀ p ∈ L,RV.ok H p)→sizes (L.map Prod.fst)≤L.length*3000000
 | [],_=>aj _
 | x :: L,h=>by
  have d:=zav (L:=L) fun p e=>h p (bd _ e)
  obtain ⟨-,j,q⟩:=h x (a8 ..);rw [bi,cq];unfold sizes at d ⊢;rw [bi,dz];have:x.1.size≤3000000:=by unfold RecU.size; omega
  omega
theorem s579 {L:List RV} {a:Option (Nat × Nat)} {c:Option Nat} (C:Row H 5 RV.cells L a) (J:L.length≤16) (h0:L≠[]) (e:∀ p ∈ L,RV.ok H p) :
  xCall T 579 [.slice a L.length c] ⟨H,b,w⟩=some (.int .i64 ((sizes (L.map Prod.fst)+16:Nat):Int),⟨H,b,w⟩):=by
 have q:=fun {β:Type} w (k:AExit→St→Option β)=>l579 (b:=b) (c:=c) (y:=.slice a L.length c) C (by omega) e L.length 0 w 0 (by omega) (by omega) k
 simp only [bf,ff,dq] at q;have d:=fun w=>s589 (H:=H) (b:=b) (w:=w) (r:=⟨0,0,[],[],0⟩) (a:=none) (c:=some 0) (by decide) (by decide)
 have D:((L.length:Int)+16 - 1).tdiv 16=1:=by have h1:0 < L.length:=kg.2 h0;rw [sx (by omega)];omega
 have G:=zav e;have A:sizes (L.map Prod.fst)≤300000000:=by omega
 have j:((sizes (L.map Prod.fst)+16:Nat):Int)=(sizes (L.map Prod.fst):Int)+16:=by omega
 rw [j];simp only [RecU.cells,RecU.size,eq,bf,Nat.reduceAdd] at d;generalize sizes (L.map Prod.fst)=s at *;simp (disch:=omega) [-getElem?_pos,-getElem?_neg,-List.all_eq_true,qZ,qS,nltT,nltF,iltT,iltF,ileT,nleT,di,bg t579,code579,q,d,D]
end
end Go.Abs.AbsBlb

namespace Go.Abs.AbsBlb
open Go.Abs.Short
structure PlU where
 sec:Nat
 at_:Nat
 blob:Bs
def PlU.val (p:PlU):AVal:=.agg [.int .i64 p.sec,.int .i64 p.at_,.str p.blob]
structure StU where
 secs:List Sec
 ix:List (Bs × PlU × Nat)
 clock:Nat
 head:Int
 at_:Nat
 txn:Nat
 seq:Nat
 down:Bool
structure SI where
 s:Nat
 sa:Nat
 sc:Option Nat
 m:Nat
 fi:FI
def StU.cells (K:StU) (F:Fl) (I:SI):List AVal:=[.ptr (some (I.fi.fl,0)),.int .i64 F.n,.int .i64 F.z,.int .i64 F.lim,.slice (some (I.sa,0)) K.secs.length I.sc,.map (some I.m),.int .i64 K.head,.int .i64 K.at_,.int .u32 K.txn,.int .u32 K.seq,.bool K.down]
def StU.map (K:StU):AObj:=.map (K.ix.map fun e=>(.str e.1,e.2.1.val,e.2.2)) K.clock
structure StA (H:List AObj) (I:SI) (F:Fl) (K:StU):Prop where
 fl:FlA H I.fi F
 s:H[I.s]? = some (.cells 11 (K.cells F I))
 r:H[I.sa]? = some (.cells 3 (K.secs.flatMap Sec.cells))
 m:H[I.m]? = some K.map
 ln:K.secs.length=F.n
 hd:K.head = -1∨∃ h:Nat,K.head=h∧h < F.n
 ab:K.at_≤F.z
 sb:K.seq < 4294967296
 tb:K.txn < 4294967296
def SI.hi (I:SI):Nat:=max I.s (max I.sa (max I.m (max I.fi.fb I.fi.fw)))
def SI.lo (I:SI) (b:Nat):Prop:=b≤I.s∧b≤I.sa∧b≤I.m∧b≤I.fi.fb∧b≤I.fi.fw
structure StF (I:SI) (H H':List AObj):Prop where
 len:H.length≤H'.length
 keep:∀ (k:Nat) (o:AObj),H[k]? = some o→k≠I.s→k≠I.sa→k≠I.m→k≠I.fi.fb→k≠I.fi.fw→H'[k]? = some o
section
variable {H H' H'':List AObj} {b w:Nat} {I:SI} {F:Fl} {K:StU}
theorem StF.refl:StF I H H:=⟨aj _,fun _ _ h _ _ _ _ _=>h⟩
theorem StF.trans (h:StF I H H') (k:StF I H' H''):StF I H H'':=⟨de h.len k.len,fun i o ho h1 h2 d e j=>k.keep i o (h.keep i o ho h1 h2 d e j) h1 h2 d e j⟩
theorem FlF.st (h:FlF I.fi H H'):StF I H H':=⟨h.len,fun i o ho _ _ _ d e=>h.keep i o ho d e⟩
theorem StF.app (h:StF I H H') (X:List AObj):StF I H (H'++X):=⟨by rw [au]; have:=h.len; omega,fun i o ho h1 h2 d e j=>by have:=h.keep i o ho h1 h2 d e j;rw [ag (ah this)]; exact this⟩
theorem StA.hi (h:StA H I F K):I.hi < H.length:=by have h1:=ah h.s;have h2:=ah h.r;have d:=ah h.m;have e:=ah h.fl.b;have j:=ah h.fl.w;unfold SI.hi;omega
structure Nes (I:SI):Prop where
 a1:I.s≠I.sa
 a2:I.s≠I.m
 a3:I.s≠I.fi.fl
 a4:I.s≠I.fi.fb
 a5:I.s≠I.fi.fw
 b1:I.sa≠I.m
 b2:I.sa≠I.fi.fl
 b3:I.sa≠I.fi.fb
 b4:I.sa≠I.fi.fw
 c1:I.m≠I.fi.fl
 c2:I.m≠I.fi.fb
 c3:I.m≠I.fi.fw
theorem StA.nes (h:StA H I F K):Nes I:=⟨fun e=>by have q:=h.s; rw [e,h.r] at q; simp [StU.map] at q,
 fun e=>by have q:=h.s; rw [e,h.m] at q; simp [StU.map] at q,
 fun e=>by have q:=h.s; rw [e,h.fl.f] at q; simp [StU.map] at q,
 fun e=>by have q:=h.s; rw [e,h.fl.b] at q; simp [StU.map] at q,
 fun e=>by have q:=h.s; rw [e,h.fl.w] at q; simp [StU.map] at q,
 fun e=>by have q:=h.r; rw [e,h.m] at q; simp [StU.map] at q,
 fun e=>by have q:=h.r; rw [e,h.fl.f] at q; simp [StU.map] at q,
 fun e=>by have q:=h.r; rw [e,h.fl.b] at q; simp [StU.map] at q,
 fun e=>by have q:=h.r; rw [e,h.fl.w] at q; simp [StU.map] at q,
 fun e=>by have q:=h.m; rw [e,h.fl.f] at q; simp [StU.map] at q,
 fun e=>by have q:=h.m; rw [e,h.fl.b] at q; simp [StU.map] at q,
 fun e=>by have q:=h.m; rw [e,h.fl.w] at q; simp [StU.map] at q⟩
theorem StA.flash (h:StA H I F K) {F':Fl} (k:FlF I.fi H H') (h':FlA H' I.fi F') (e:F'.n=F.n∧F'.z=F.z∧F'.lim=F.lim):StA H' I F' K:=by have n:=h.nes;refine ⟨h',?_,k.keep _ _ h.r n.b3 n.b4,k.keep _ _ h.m n.c2 n.c3,by rw [e.1]; exact h.ln,by rw [e.1]; exact h.hd,by rw [e.2.1]; exact h.ab,h.sb,h.tb⟩;rw [k.keep _ _ h.s n.a4 n.a5];unfold StU.cells;rw [e.1,e.2.1,e.2.2]
theorem StA.app (h:StA H I F K) (X:List AObj):StA (H++X) I F K:=by
 have:∀ {i o},H[i]? = some o→(H++X)[i]? = some o:=fun ho=>by rw [ag (ah ho)]; exact ho
 exact ⟨h.fl.app X,this h.s,this h.r,this h.m,h.ln,h.hd,h.ab,h.sb,h.tb⟩
theorem StA.own (h:StA H I F K) {K':StU} (e:K'.secs=K.secs) (j:K'.ix=K.ix∧K'.clock=K.clock) (hd:K'.head = -1∨∃ h:Nat,K'.head=h∧h < F.n) (ab:K'.at_≤F.z) (sb:K'.seq < 4294967296) (tb:K'.txn < 4294967296):StA (H.set I.s (.cells 11 (K'.cells F I))) I F K':=by
 have n:=h.nes;have:∀ {i o},H[i]? = some o→I.s≠i→(H.set I.s (.cells 11 (K'.cells F I)))[i]? = some o:=fun ho d=>by rw [aq d]; exact ho
 exact ⟨h.fl.keep fun i o ho hi=>this ho (by rcases hi with rfl | rfl | rfl; exact n.a3; exact n.a4; exact n.a5),ke h.s,by rw [e]; exact this h.r n.a1,by unfold StU.map; rw [j.1,j.2]; exact this h.m n.a2,by rw [e]; exact h.ln,hd,ab,sb,tb⟩
theorem StF.own {o:AObj}:StF I H (H.set I.s o):=⟨by rw [az]; exact aj _,fun k o ho h1 _ _ _ _=>by rw [aq (fun e=>h1 e.symm)]; exact ho⟩
section
attribute [-simp] getElem?_pos getElem?_neg List.all_eq_true
attribute [local simp] qZ qS nltT nltF iltT iltF ileT nleT di
theorem s597 (h:StA H I F K) {n:Nat} (d:n≤1000000000):xCall T 597 [.ptr (some (I.s,0)),.int .i64 n] ⟨H,b,w⟩=some (.bool (!decide (K.head = -1) && decide (K.at_+n≤F.z)),⟨H,b,w⟩):=by
 have hs:=h.s;unfold StU.cells at hs;have e:=h.fl.nb.2;have ha:=h.ab;by_cases c1:K.head = -1
 ·simp (disch:=omega) [bg t597,code597,hs,c1]
 ·by_cases c2:K.at_+n≤F.z
  ·simp (disch:=omega) [bg t597,code597,hs,c1,c2]
  ·simp (disch:=omega) [bg t597,code597,hs,c1,c2]
theorem s561 (h:StA H I F K):xCall T 561 [.ptr (some (I.s,0))] ⟨H,b,w⟩=some (.bool K.down,⟨H,b,w⟩):=by have hs:=h.s;unfold StU.cells at hs;simp (disch:=omega) [bg t561,code561,hs]
theorem p578 (h:StA H I F K) (hb:I.lo b):∃ H',StF I H H'∧StA H' I F K∧H'.length=H.length∧∀ w,xCall T 578 [.ptr (some (I.s,0)),.int .i64 0] ⟨H,b,w⟩=some (.int .i64 0,⟨H',b,min w I.s⟩):=by
 refine ⟨_,StF.own,h.own (K':=K) rfl ⟨rfl,rfl⟩ h.hd h.ab h.sb h.tb,az,fun w=>?_⟩;have hs:=h.s;unfold StU.cells at hs ⊢;have e:=ah hs;have d:=hb.1;cases hd:K.down with
 | true =>
  rw [hd] at hs;simp (disch:=omega) [bg t578,code578,hs]
 | false =>
  rw [hd] at hs;simp (disch:=omega) [bg t578,code578,hs]
end
end
end Go.Abs.AbsBlb

namespace Go.Abs.AbsBlb
open Go.Abs.Short
def Fl.laid (F:Fl) (a:Nat) (r:RecU):Fl:=(F.prog a (recB r)).prog (a+(recB r).length) [0]
section
variable {H:List AObj} {b w:Nat} {I:SI} {F:Fl} {K:StU}
theorem p601 (h:StA H I F K) (hb:I.lo b) {r:RecU} {v:AVal} (hv:BlobV H v r.blob) (hr:r.right=true) (ht:r.txn < 4294967296) {hd:Nat} (hh:K.head=hd) (y:K.at_+r.size≤F.z)
  (A:∀ j,K.at_≤j→j < F.z→F.b[hd*F.z+j]? = some 255) :
  ∃ H',∃ C:Nat→Nat,StF I H H'∧StA H' I (F.laid (hd*F.z+K.at_) r) { K with at_:=K.at_+r.size }∧(∀ w,C w≤I.hi∧min w b≤C w) ∧
   ∀ w,xCall T 601 [.ptr (some (I.s,0)),.agg (r.cells v)] ⟨H,b,w⟩=some (.tuple [.agg (.int .i64 K.at_ :: r.cells v),.int .i64 0],⟨H',b,C w⟩):=by
 have aa:=h.hi;have hI:I.fi.fb≤I.hi∧I.s≤I.hi:=by unfold SI.hi; omega
 obtain ⟨b1,b2,b3,b4,b5⟩:=hb
 have D:hd < F.n:=by
  rcases h.hd with e | ⟨x,e,hx⟩
  ·omega
  ·omega
 have ac:=(h.fl.sec_len D).2;have ad:=h.fl.total;have hz:=h.fl.nb.2;obtain ⟨l0,l1,l2,l3⟩:=zaw hr;have al:=zab r;have X:16≤r.size:=by unfold RecU.size; omega
 have an:r.size≤5000:=by unfold RecU.size; omega
 have d:=fun w=>s596 (w:=w) hv hr ht (show b≤H.length by omega)
 obtain ⟨H2,k2,f2,e2,x2⟩:=p558 (b:=b) (c:=none) (h.fl.app [.cells 1 ((recB r).map u8V)]) (SlB.whole (q:=H.length) (gc _ _) rfl) (by omega) (a:=hd*F.z+K.at_) (by omega) (vz _ _ fun j hj=>by rw [dt,lz]; exact A (K.at_+j) (by omega) (by omega)) b4 (aj _)
 have s2:=(h.app [.cells 1 ((recB r).map u8V)]).flash k2 f2 ⟨rfl,rfl,rfl⟩;have G:(F.prog (hd*F.z+K.at_) (recB r)).b.length=F.b.length:=gw (by omega);obtain ⟨H3,k3,f3,e3,J⟩:=p558 (b:=b) (c:=some 1) (f2.app [.cells 1 [.int .u8 0]]) (SlB.whole (q:=H2.length) (n:=1) (l:=[0]) (gc _ _) rfl) (by omega) (a:=hd*F.z+K.at_+(recB r).length) (by rw [G]; omega) (xr _) b4 (aj _);have s3:=(s2.app [.cells 1 [.int .u8 0]]).flash k3 f3 ⟨rfl,rfl,rfl⟩;have L:=s3.own (K':={ K with at_:=K.at_+r.size }) rfl ⟨rfl,rfl⟩ h.hd (by show K.at_+r.size≤F.z; exact y) h.sb h.tb;refine ⟨_,fun w=>min w (min I.fi.fb I.s),(((StF.refl.app _).trans k2.st).app _ |>.trans k3.st).trans .own,L,fun w=>by show min w (min I.fi.fb I.s)≤_∧_≤min w (min I.fi.fb I.s); omega,fun w=>?_⟩;have N:=h.s;have O:=(h.app [.cells 1 ((recB r).map u8V)]).s;have Q:=s2.s;have U:=s3.s;simp only [StU.cells,Fl.prog] at N O Q U ⊢
 rw [au] at e2;rw [au] at e3;have V:(hd:Int)*(F.z:Int)=((hd*F.z:Nat):Int):=(Int.natCast_mul hd F.z).symm;have ea:((hd*F.z+K.at_:Nat):Int)=((hd*F.z:Nat):Int)+K.at_:=by omega
 have eb:((hd*F.z+K.at_+(recB r).length:Nat):Int)=((hd*F.z:Nat):Int)+K.at_+(recB r).length:=by omega
 have ec:((K.at_+r.size:Nat):Int)=(K.at_:Int)+((recB r).length+1):=by omega
 rw [ea] at x2;rw [eb] at J;rw [ec];unfold RecU.cells at d ⊢;have a0:(recB r).length≤5000:=by omega
 have ao:hd*F.z≤4194304:=by omega
 have a6:=h.ab;generalize (recB r).map u8V=Y at *;generalize (recB r).length=n at *;generalize hd*F.z=q at *;rw [hh] at N O Q U ⊢;have p:H2.length=H.length+1:=e2;have W:H3.length=H.length+1+1:=by rw [e3,p]; rfl
 rw [p] at J;simp (disch:=omega) [-getElem?_pos,-getElem?_neg,-List.all_eq_true,qZ,qS,nltT,nltF,iltT,iltF,ileT,nleT,di,bg t601,code601,d,N,O,Q,U,x2,J,V,p,W]
end
end Go.Abs.AbsBlb

namespace Go.Abs.AbsBlb
open Go.Abs.Short
theorem zaa:∀ {L:List Sec} {i:Nat} (y:Sec),i < L.length→(L.flatMap Sec.cells).take (i*3) ++ .int .i64 y.st :: .int .u32 y.seq :: .int .i64 y.er :: (L.flatMap Sec.cells).drop (i*3+3)=(L.set i y).flatMap Sec.cells
 | [],i,y,h=>by simp at h
 | z :: L,0,y,h=>by simp [Sec.cells]
 | z :: L,i+1,y,h=>by have d:=zaa (L:=L) (i:=i) y (by simpa using h);rw [List.set_cons_succ,d0,d0,← d,fm,Nat.one_mul];have e:z.cells.length=3:=rfl;rw [show i*3+3=z.cells.length+i*3 from by rw [e]; omega,show z.cells.length+i*3+3=z.cells.length+(i*3+3) from by omega,List.take_append,List.drop_append,dg (by omega),dk (by omega)];simp [iw];rw [Nat.add_comm]
theorem sec_len (L:List Sec):(L.flatMap Sec.cells).length=L.length*3:=by
 induction L with
 | nil=>rfl
 | cons x L ih=>rw [d0,au,ih,cq,fm]; simp; omega
section
variable {H:List AObj} {b w:Nat} {I:SI} {F:Fl} {K:StU}
theorem StA.row (h:StA H I F K) {L:List Sec} (e:L.length=K.secs.length):StA (H.set I.sa (.cells 3 (L.flatMap Sec.cells))) I F { K with secs:=L }:=by
 have n:=h.nes;have key:∀ {i o},H[i]? = some o→I.sa≠i→(H.set I.sa (.cells 3 (L.flatMap Sec.cells)))[i]? = some o:=fun ho d=>by rw [aq d]; exact ho
 refine ⟨h.fl.keep fun i o ho hi=>key ho (by rcases hi with rfl | rfl | rfl; exact n.b2; exact n.b3; exact n.b4),?_,ke h.r,key h.m n.b1,by rw [← h.ln]; exact e,h.hd,h.ab,h.sb,h.tb⟩;have:=key h.s n.a1.symm;rw [this];unfold StU.cells;simp only [e]
theorem StF.row {o:AObj}:StF I H (H.set I.sa o):=⟨by rw [az]; exact aj _,fun k o ho _ h1 _ _ _=>by rw [aq (fun e=>h1 e.symm)]; exact ho⟩
def Fl.dropped (F:Fl) (i x:Nat):Fl:=if x < F.lim then (F.prog (i*F.z+9) [0]).erase i else F.prog (i*F.z+9) [0]
def dropS (F:Fl) (x:Nat):Sec:=if x < F.lim then ⟨0,0,(x:Int)+1⟩ else ⟨1,0,x⟩
section
attribute [-simp] getElem?_pos getElem?_neg List.all_eq_true
attribute [local simp] qZ qS nltT nltF iltT iltF ileT nleT di
theorem p594 (h:StA H I F K) (hb:I.lo b) (hz:12≤F.z) {i x:Nat} (hx:F.w[i]? = some x) :
  ∃ H',∃ W:Nat→Nat,StF I H H'∧StA H' I (F.dropped i x) { K with secs:=K.secs.set i (dropS F x) }∧(∀ w,W w≤I.hi∧min w b≤W w) ∧
   ∀ w,xCall T 100594 [.ptr (some (I.s,0)),.int .i64 i] ⟨H,b,w⟩=some (.int .i64 0,⟨H',b,W w⟩):=by
 have al:=h.hi;have hI:I.fi.fb≤I.hi∧I.fi.fw≤I.hi∧I.s≤I.hi∧I.sa≤I.hi:=by unfold SI.hi; omega
 obtain ⟨b1,b2,b3,b4,X⟩:=id hb;have hi:i < F.n:=by have:=ah hx; have:=h.fl.wl; omega
 have an:=h.ln;have ao:=(h.fl.sec_len hi).2;obtain ⟨H1,A,C,f1,w1,x1⟩:=p612 (b:=b) h.fl hi hz ⟨b4,X⟩;have s1:=h.flash C f1 ⟨rfl,rfl,rfl⟩;have p:=fun w=>s587 (b:=b) (w:=w) f1 (i:=i) (x:=x) hx
 have D:=s1.row (L:=K.secs.set i ⟨1,0,x⟩) az;have G:=zaa (L:=K.secs) (i:=i) ⟨1,0,x⟩ (by omega);have Q:=h.s;have U:=s1.s;have g3:=s1.r;have J:=D.fl;have q:=sec_len K.secs;unfold Fl.dropped dropS;by_cases d:x < F.lim
 ·rw [if_pos d,if_pos d];obtain ⟨H3,k3,f3,e3,x3⟩:=p611 (b:=b) J (i:=i) (x:=x) hx d (by show 0 < F.z; omega) ⟨b4,X⟩;have V:=D.flash k3 f3 ⟨rfl,rfl,rfl⟩;have s4:=V.row (L:=K.secs.set i ⟨0,0,(x:Int)+1⟩) (by rw [az,az])
  have a0:((F.prog (i*F.z+9) [0]).erase i).w[i]? = some (x+1):=by
   show (F.w.set i ((F.w[i]?).getD 0+1))[i]? = _
   rw [hx];exact bj (ah hx)
  have e:=fun w=>s587 (b:=b) (w:=w) V.fl (i:=i) a0
  have N:=zaa (L:=K.secs.set i ⟨1,0,x⟩) (i:=i) ⟨0,0,(x:Int)+1⟩ (by rw [az]; omega);have j:=sec_len (K.secs.set i ⟨1,0,x⟩);have O:=D.s;have g5:=V.s;have g6:=V.r;rw [List.set_set] at N;refine ⟨_,fun w=>min w (min (min (min (A H.length) I.sa) (min I.fi.fw I.fi.fb)) I.sa),((C.st.trans .row).trans k3.st).trans .row,s4,fun w=>by show min w (min (min (min (A H.length) I.sa) (min I.fi.fw I.fi.fb)) I.sa)≤_∧_≤min w (min (min (min (A H.length) I.sa) (min I.fi.fw I.fi.fb)) I.sa); have:=w1 H.length; omega,fun w=>?_⟩;have a6:=w1 H.length;simp only [StU.cells,az] at Q U O g5 j;simp only [az] at *;have aa:=C.len;have ax:=e3;have ac:((x+1:Nat):Int)=(x:Int)+1:=by omega
  rw [ac] at e;generalize (K.secs.set i ⟨0,0,(x:Int)+1⟩).flatMap Sec.cells=C3 at *;generalize (K.secs.set i ⟨1,0,x⟩).flatMap Sec.cells=C2 at *;generalize K.secs.flatMap Sec.cells=C1 at *;simp (disch:=omega) [bg t100594,code100594,x1,p,Q,U,g3,O,g5,g6,x3,e,G,N,q,j]
 ·rw [if_neg d,if_neg d];have y:=fun w=>s611 (b:=b) (w:=w) J (i:=i) (x:=x) hx (by show 0 < F.z; omega) ⟨b4,X⟩
  have ad:(F.prog (i*F.z+9) [0]).lim≤x:=by show F.lim≤x; omega
  simp only [eq_true ad,if_true] at y;refine ⟨_,fun w=>min w (min (A H.length) I.sa),C.st.trans .row,D,fun w=>by show min w (min (A H.length) I.sa)≤_∧_≤min w (min (A H.length) I.sa); have:=w1 H.length; omega,fun w=>?_⟩;have a6:=w1 H.length;have O:=D.s;simp only [StU.cells,az] at Q U O;have aa:=C.len;generalize (K.secs.set i ⟨1,0,x⟩).flatMap Sec.cells=C2 at *;generalize K.secs.flatMap Sec.cells=C1 at *;simp (disch:=omega) [bg t100594,code100594,x1,p,Q,U,g3,O,y,G,q]
end
def nextS (F:Fl) (K:StU):Nat × Bool:=least (opn F.lim) Sec.er K.secs K.secs.length
section
attribute [-simp] getElem?_pos getElem?_neg List.all_eq_true
attribute [local simp] qZ qS nltT nltF iltT iltF ileT nleT di
theorem p598n (h:StA H I F K) (d:(nextS F K).2=false∨K.seq=4294967295):xCall T 598 [.ptr (some (I.s,0))] ⟨H,b,w⟩=some (.int .i64 10,⟨H,b,w⟩):=by
 have q:Row H 3 Sec.cells K.secs (some (I.sa,0)):=Row.mk0 (fun _=>rfl) h.r;have y:=h.fl.nb.1;have A:=h.ln;have j:=fun c w=>s7 (os:=H) (b:=b) (w:=w) (c:=c) (lim:=F.lim) q (by omega)
 have e:=h.s;unfold StU.cells at e;unfold nextS at d;generalize least (opn F.lim) Sec.er K.secs K.secs.length=p at *;obtain ⟨D,C⟩:=p;cases C with
 | false=>simp (disch:=omega) [bg t598,code598,e,j]
 | true =>
  rcases d with d | d
  ·cases d
  ·rw [d] at e;simp (disch:=omega) [bg t598,code598,e,j]
theorem p598 (h:StA H I F K) (hb:I.lo b) (hz:12≤F.z) {i x e:Nat} (hn:nextS F K=(i,true)) (hq:K.seq≠4294967295) (hx:F.w[i]? = some x) (C:(F.look i).st=0∨((F.look i).st=1∧x < F.lim)) (D:(F.clear i).w[i]? = some e) :
  ∃ H',∃ G:Nat→Nat,StF I H H'∧StA H' I (F.opened i (K.seq+1)) { K with secs:=K.secs.set i ⟨2,(K.seq:Int)+1,e⟩,head:=i,at_:=12,txn:=0,seq:=K.seq+1 }∧(∀ w,G w≤I.hi∧min w b≤G w) ∧
   ∀ w,xCall T 598 [.ptr (some (I.s,0))] ⟨H,b,w⟩=some (.int .i64 0,⟨H',b,G w⟩):=by
 have a6:=h.hi;have hI:I.fi.fb≤I.hi∧I.fi.fw≤I.hi∧I.s≤I.hi∧I.sa≤I.hi:=by unfold SI.hi; omega
 obtain ⟨b1,b2,b3,b4,b5⟩:=id hb;have hi:i < F.n:=by have:=ah hx; have:=h.fl.wl; omega
 have aa:=h.ln;have ac:=h.fl.nb.1;have ad:=h.sb;have hR:Row H 3 Sec.cells K.secs (some (I.sa,0)):=Row.mk0 (fun _=>rfl) h.r;have h7:=fun c w=>s7 (os:=H) (b:=b) (w:=w) (c:=c) (lim:=F.lim) hR (by omega)
 unfold nextS at hn;rw [hn] at h7;obtain ⟨H1,J,N,f1,w1,x1⟩:=p618 (b:=b) (seq:=K.seq+1) h.fl hx C hz (by omega) ⟨b4,b5⟩;obtain ⟨e1,e2,e3⟩:=qv F i;have s1:=h.flash N f1 ⟨e1,e2,e3⟩;have Q:(F.opened i (K.seq+1)).w[i]? = some e:=D;have j:=fun w O (hO:FlA O I.fi (F.opened i (K.seq+1)))=>s587 (b:=b) (w:=w) hO (i:=i) (x:=e) Q
 have p:=s1.own (K':={ K with seq:=K.seq+1 }) rfl ⟨rfl,rfl⟩ s1.hd s1.ab (by show K.seq+1 < _; omega) s1.tb;have d:=fun w=>j w _ p.fl
 have s3:=p.row (L:=K.secs.set i ⟨2,(K.seq:Int)+1,e⟩) az;have s4:=s3.own (K':={ K with secs:=K.secs.set i ⟨2,(K.seq:Int)+1,e⟩,head:=i,at_:=12,txn:=0,seq:=K.seq+1 }) rfl ⟨rfl,rfl⟩ (.inr ⟨i,rfl,by show i < (F.clear i).n; rw [e1]; exact hi⟩) (by show 12≤(F.clear i).z; rw [e2]; exact hz) (by show K.seq+1 < _; omega) (by show 0 < _; omega);have U:=zaa (L:=K.secs) (i:=i) ⟨2,(K.seq:Int)+1,e⟩ (by omega);have q:=sec_len K.secs;have g1:=h.s;have g2:=s1.s;have g3:=p.s;have g4:=p.r;have V:=s3.s;have hu:IntKind.u32.wrap ((K.seq:Int)+1)=(K.seq:Int)+1:=wrap32 (by omega);have W:((K.seq+1:Nat):Int)=(K.seq:Int)+1:=by omega
 have X:¬ ((K.seq:Int)=4294967295):=by omega
 refine ⟨_,fun w=>min w (min (min (J H.length) I.s) (min I.sa I.s)),((N.st.trans .own).trans .row).trans .own,s4,fun w=>by show min w (min (min (J H.length) I.s) (min I.sa I.s))≤_∧_≤min w (min (min (J H.length) I.s) (min I.sa I.s)); have:=w1 H.length; omega,fun w=>?_⟩;have al:=w1 H.length;have an:=N.len;have ao:=ah h.r;have ax:=ah h.s;have a0:=ah p.r;simp only [StU.cells,az,W] at g1 g2 g3 g4 V x1 d ⊢;have A:=fun o=>ke (y:=o) V
 generalize (K.secs.set i ⟨2,(K.seq:Int)+1,e⟩).flatMap Sec.cells=C2 at *;generalize K.secs.flatMap Sec.cells=C1 at *;simp (disch:=omega) [bg t598,code598,x1,h7,g1,g2,g3,g4,V,d,U,q,hu,X,A,List.set_set];omega
end
end
end Go.Abs.AbsBlb

namespace Go.Abs.AbsBlb
open Go.Abs.Short
abbrev Ent:=Bs × PlU × Nat
def entV (e:Ent):AVal × AVal × Nat:=(.str e.1,e.2.1.val,e.2.2)
def findK (k:Bs):List Ent→Option (Nat × PlU)
 | []=>none
 | e :: r=>if e.1=k then some (0,e.2.1) else (findK k r).map fun x=>(x.1+1,x.2)
theorem ti (k:Bs):∀ L:List Ent,findA (.str k) (L.map entV)=some ((findK k L).map fun x=>(x.1,x.2.val))
 | []=>rfl
 | e :: r=>by
  have p:=ti k r;rw [bi];unfold findA entV findK;have j:akey (.str k) (.str e.1)=some (decide (k=e.1)):=by simp [akey,akey1]
  by_cases c:e.1=k
  ·have d:akey (.str k) (.str e.1)=some true:=by rw [j,decide_eq_true c.symm]
   rw [if_pos c];simp only [d]; rfl
  ·have d:akey (.str k) (.str e.1)=some false:=by rw [j,decide_eq_false (fun h=>c h.symm)]
   rw [if_neg c];simp only [d];show Option.map _ (findA (.str k) (r.map entV))=_;rw [p];cases findK k r <;> rfl
def StU.del (K:StU) (k:Bs):StU:=match findK k K.ix with
 | some x=>{ K with ix:=K.ix.eraseIdx x.1 }
 | none=>K
def StU.put (K:StU) (k:Bs) (p:PlU):StU:=match findK k K.ix with
 | some x=>{ K with ix:=K.ix.modify x.1 fun e=>(k,p,e.2.2) }
 | none=>{ K with ix:=K.ix++[(k,p,K.clock)],clock:=K.clock+1 }
def StU.apply (K:StU) (sec at_:Nat) (r:RecU):StU:=if r.kind=2 then K.del r.key else K.put r.key ⟨sec,at_,r.blob⟩
theorem erase_map {α β:Type} (f:α→β):∀ (L:List α) (i:Nat),(L.map f).eraseIdx i=(L.eraseIdx i).map f
 | [],i=>rfl
 | x :: L,0=>rfl
 | x :: L,i+1=>by rw [bi,List.eraseIdx_cons_succ,List.eraseIdx_cons_succ,bi,erase_map f L i]
theorem zau {α β:Type} {f:α→β} {g:β→β} {g':α→α} (h:∀ x,g (f x)=f (g' x)):∀ (L:List α) (i:Nat),(L.map f).modify i g=(L.modify i g').map f
 | [],i=>by cases i <;> rfl
 | x :: L,0=>by simp [h]
 | x :: L,i+1=>by rw [bi,List.modify_succ_cons,List.modify_succ_cons,bi,zau h L i]
section
variable {H:List AObj} {b w:Nat} {I:SI} {F:Fl} {K:StU}
theorem StA.idx (h:StA H I F K) {K':StU} (e:K'.secs=K.secs∧K'.head=K.head∧K'.at_=K.at_∧K'.txn=K.txn∧K'.seq=K.seq∧K'.down=K.down):StA (H.set I.m K'.map) I F K':=by
 have n:=h.nes;obtain ⟨d,p,q,y,A,C⟩:=e;have key:∀ {i o},H[i]? = some o→I.m≠i→(H.set I.m K'.map)[i]? = some o:=fun ho j=>by rw [aq j]; exact ho
 refine ⟨h.fl.keep fun i o ho hi=>key ho (by rcases hi with rfl | rfl | rfl; exact n.c1; exact n.c2; exact n.c3),?_,by rw [d]; exact key h.r n.b1.symm,ke h.m,by rw [d]; exact h.ln,by rw [p]; exact h.hd,by rw [q]; exact h.ab,by rw [A]; exact h.sb,by rw [y]; exact h.tb⟩;rw [key h.s n.a2.symm];unfold StU.cells;rw [d,p,q,y,A,C]
theorem StF.idx {o:AObj}:StF I H (H.set I.m o):=⟨by rw [az]; exact aj _,fun k o ho _ _ h1 _ _=>by rw [aq (fun e=>h1 e.symm)]; exact ho⟩
theorem put_eq (K:StU) (k:Bs) (p:PlU):(K.put k p).secs=K.secs∧(K.put k p).head=K.head∧(K.put k p).at_=K.at_∧(K.put k p).txn=K.txn∧(K.put k p).seq=K.seq∧(K.put k p).down=K.down:=by unfold StU.put; split <;> exact ⟨rfl,rfl,rfl,rfl,rfl,rfl⟩
theorem del_eq (K:StU) (k:Bs):(K.del k).secs=K.secs∧(K.del k).head=K.head∧(K.del k).at_=K.at_∧(K.del k).txn=K.txn∧(K.del k).seq=K.seq∧(K.del k).down=K.down:=by unfold StU.del; split <;> exact ⟨rfl,rfl,rfl,rfl,rfl,rfl⟩
theorem ext_put (h:H[I.m]? = some K.map) {k:Bs} {p:PlU} (hb:b≤I.m):ct (.mapupd (.one .s)) [.map (some I.m),.str k,p.val] ⟨H,b,w⟩=some (.tuple [],⟨H.set I.m (K.put k p).map,b,min w I.m⟩):=by
 have d:=ti k K.ix;have hi:isKey (.one .s) (.str k)=true:=rfl;have hm:K.map = .map (K.ix.map entV) K.clock:=rfl;rw [hm] at h;unfold ct;simp only [hi,Heap.get,h,hb,and_self,if_true,d];unfold StU.put;cases findK k K.ix with
 | none =>
  simp only [Option.map_none,Heap.put,StU.map];rw [ku]; rfl
 | some x =>
  simp only [b8,Heap.put,StU.map];rw [zau (f:=entV) (g':=fun e=>(k,p,e.2.2)) (fun x=>rfl)]; rfl
theorem ext_del (h:H[I.m]? = some K.map) {k:Bs} (hb:b≤I.m):∃ e:Nat→Nat,(∀ w,e w≤w∧min w b≤e w)∧((findK k K.ix=none∧e=fun w=>w)∨e=fun w=>min w I.m)∧∀ w,ct (.delete (.one .s)) [.map (some I.m),.str k] ⟨H,b,w⟩=some (.tuple [],⟨H.set I.m (K.del k).map,b,e w⟩):=by
 have j:=ti k K.ix;have hi:isKey (.one .s) (.str k)=true:=rfl;have hm:K.map = .map (K.ix.map entV) K.clock:=rfl;have d:H.set I.m K.map=H:=np h;rw [hm] at h;unfold StU.del;cases p:findK k K.ix with
 | none =>
  refine ⟨fun w=>w,fun w=>⟨aj _,cr _ _⟩,.inl ⟨rfl,rfl⟩,fun w=>?_⟩;unfold ct;simp only [hi,Heap.get,h,hb,and_self,if_true,j,p,Option.map_none,d]
 | some x =>
  refine ⟨fun w=>min w I.m,fun w=>by show min w I.m≤w∧min w b≤min w I.m; omega,.inr rfl,fun w=>?_⟩;unfold ct;simp only [hi,Heap.get,h,hb,and_self,if_true,j,p,b8,Heap.put,StU.map,erase_map];rfl
section
attribute [-simp] getElem?_pos getElem?_neg List.all_eq_true
attribute [local simp] qZ qS nltT nltF iltT iltF ileT nleT di
theorem p600 (h:StA H I F K) (hb:I.lo b) {r:RecU} {v:AVal} (G:BlobV H v r.blob) (sec at_:Nat) :
  ∃ H',∃ j:Nat→Nat,StF I H H'∧H'.length=H.length∧StA H' I F (K.apply sec at_ r)∧(∀ w,j w≤w∧min w b≤j w) ∧
   ∀ w,xCall T 600 [.ptr (some (I.s,0)),.int .i64 sec,.agg (.int .i64 at_ :: r.cells v)] ⟨H,b,w⟩=some (.tuple [],⟨H',b,j w⟩):=by
 obtain ⟨b1,b2,b3,b4,N⟩:=id hb;have y:=h.s;unfold StU.cells at y;have J:=ah h.m;unfold StU.apply RecU.cells;by_cases A:r.kind=2
 ·rw [if_pos A];obtain ⟨j,L,C,e⟩:=ext_del (K:=K) (k:=r.key) (b:=b) h.m b3;refine ⟨_,fun w=>j w,.idx,az,h.idx (del_eq K r.key),L,fun w=>?_⟩;rcases C with ⟨C,rfl⟩ | rfl
  ·have d:H.set I.m (K.del r.key).map=H:=by unfold StU.del; rw [C]; exact np h.m
   rw [d] at e ⊢;simp (disch:=omega) [bg t600,code600,-ct,A,y,e]
  ·simp (disch:=omega) [bg t600,code600,-ct,A,y,e]
 ·rw [if_neg A];have D:¬ ((r.kind:Int)=2):=by omega
  have q:=fun w=>G.row (b:=b) (w:=w)
  obtain ⟨O,vc,rfl,-,-⟩:=G;have e:=fun w=>ext_put (w:=w) (K:=K) (k:=r.key) (p:=⟨sec,at_,r.blob⟩) (b:=b) h.m b3
  unfold PlU.val at e;refine ⟨_,fun w=>min w I.m,.idx,az,h.idx (put_eq K r.key _),fun w=>by show min w I.m≤w∧min w b≤min w I.m; omega,fun w=>?_⟩;simp (disch:=omega) [bg t600,code600,-ct,D,y,e,-il,q,l7]
end
end
end Go.Abs.AbsBlb

namespace Go.Abs.AbsBlb
open Go.Abs.Short
def FRow {α:Type} (N e:Nat) (f:α→List AVal) (A:List α) (P:List AObj) (x:AVal):Prop :=
 (A=[]∧x = .slice none 0 (some 0))∨(A≠[]∧∃ q,N≤q∧x = .slice (some (q,0)) A.length none∧P[q]? = some (.cells e (A.flatMap f)))
theorem FRow.mono {α:Type} {N e:Nat} {f:α→List AVal} {A:List α} {P P':List AObj} {x:AVal} (h:FRow N e f A P x) (d:∀ (k:Nat) (o:AObj),N≤k→P[k]? = some o→P'[k]? = some o):FRow N e f A P' x:=by
 rcases h with h | ⟨h0,q,h1,h2,j⟩
 ·exact .inl h
 ·exact .inr ⟨h0,q,h1,h2,d _ _ h1 j⟩
theorem acc_addM {α:Type} {e b:Nat} {f:α→List AVal} {O P:List AObj} {A:List α} {v:AVal} (h:Acc e f O A P v) (L:∀ y,(f y).length=e) (hb:b≤O.length) {by':Nat} (N:(A.length+1)*by'≤140737488355328) (W:A.length≤1000000000) (x:α) :
  ∃ P' v',∃ q:Nat→Nat,Acc e f O (A++[x]) P' v'∧(∀ w,min w O.length≤q w)∧((∀ w,q w≤w∧(A≠[]→q w < P.length))∧Keeps P P' A.length v∧v' = .slice (some (P.length+1,0)) (A.length+1) none)∧∀ w,d7 e by' ⟨P++[.cells e (f x)],b,w⟩ v (.slice (some (P.length,0)) 1 (some 1))=some (v',⟨P',b,q w⟩):=by
 have Q:∀ w,il e ⟨P++[.cells e (f x)],b,w⟩ (.slice (some (P.length,0)) 1 (some 1))=some (f x):=fun w =>
  zb1 (by show (P++[AObj.cells e (f x)])[P.length]? = _; rw [gc]; rfl) (by rw [L,Nat.one_mul])
 have hs:(P++[AObj.cells e (f x)]).length=P.length+1:=by simp
 have X:(A++[x]).flatMap f=A.flatMap f++f x:=by simp
 have d:(A++[x]).length=A.length+1:=by simp
 have j:A++[x]≠[]:=by simp
 have a0:=h.pre.len;rcases h.val with ⟨rfl,rfl⟩ | ⟨h1,i,h2,rfl,U⟩
 ·refine ⟨P++[.cells e (f x),.cells e (f x)],.slice (some (P.length+1,0)) 1 none,id,⟨h.pre.trans (Pre.app _ _),.inr ⟨j,P.length+1,by omega,by rw [d]; rfl,by rw [jv]; simp⟩⟩,fun w=>cr _ _,⟨fun w=>⟨aj w,fun h=>absurd rfl h⟩,fun k o p _=>by rw [ag (ah p)]; exact p,by simp⟩,fun w=>?_⟩;unfold d7;simp only [Q,zb0,aApp,alen];have C:¬ (1:Nat)=0:=by decide
  have D:(0+1)*by'≤140737488355328∧0+1≤9223372036854775807:=⟨by simpa using N,by decide⟩
  simp only [eq_false C,eq_true D,if_false,if_true];simp [Heap.push,Heap.size]
 ·have hi:=ah U;have V:(P++[AObj.cells e (f x)])[i]? = some (.cells e (A.flatMap f)):=by rw [ag hi]; exact U
  have G:(A.flatMap f).length=A.length*e:=za5 f e L A;have J:∀ w,il e ⟨P++[.cells e (f x)],b,w⟩ (.slice (some (i,0)) A.length none)=some (A.flatMap f):=fun w=>zb1 V G
  have hr:∀ w,rowIs ⟨P++[.cells e (f x)],b,w⟩ i e=true:=fun w=>by unfold rowIs Heap.get;simp only [V];simp
  refine ⟨P.set i .dead++[.cells e (f x),.cells e ((A++[x]).flatMap f)],.slice (some (P.length+1,0)) (A++[x]).length none,fun w=>min w i,⟨?_,.inr ⟨j,P.length+1,by omega,rfl,?_⟩⟩,fun w=>by show min w O.length≤min w i; omega,⟨fun w=>⟨by show min w i≤w; omega,fun _=>by show min w i < P.length; omega⟩,fun k o p j=>by rw [ag (by rw [az]; exact ah p),aq (fun e=>j (by rw [e]))]; exact p,by rw [d]⟩,fun w=>?_⟩
  ·exact (h.pre.set .dead h2).trans (Pre.app _ _)
  ·rw [aw (by simp)];simp
  ·unfold d7;simp only [Q,J,aApp,alen];have C:¬ (1:Nat)=0:=by decide
   have D:(A.length+1)*by'≤140737488355328∧A.length+1≤9223372036854775807:=⟨N,by omega⟩
   have q3:¬ (none:Option Nat)=some A.length:=by simp
   have q4:(⟨P++[AObj.cells e (f x)],b,w⟩:Heap).base≤i∧rowIs ⟨P++[AObj.cells e (f x)],b,w⟩ i e=true:=⟨by show b≤i; omega,hr w⟩;simp only [eq_false C,eq_true D,eq_false q3,eq_true q4,if_false,if_true];simp only [Heap.push,Heap.put,Heap.size,List.set_append_left _ _ hi,az,hs,X,d,ba,fh,dw]
theorem FRow.add {α:Type} {N e b:Nat} {f:α→List AVal} {A:List α} {P:List AObj} {x:AVal} (h:FRow N e f A P x) (L:∀ y,(f y).length=e) (W:N≤P.length) (hb:b≤N) {by':Nat} (O:(A.length+1)*by'≤140737488355328) (D:A.length≤1000000000) (y:α) :
  ∃ P' C,∃ j:Nat→Nat,FRow N e f (A++[y]) P' C∧(∀ (k:Nat) (o:AObj),k < N→P[k]? = some o→P'[k]? = some o)∧P.length≤P'.length∧(∀ w,j w≤w∧min w N≤j w) ∧
   ∀ w,d7 e by' ⟨P++[.cells e (f y)],b,w⟩ x (.slice (some (P.length,0)) 1 (some 1))=some (C,⟨P',b,j w⟩):=by
 have J:(P.take N).length=N:=by rw [db]; omega
 have p:Pre (P.take N) P:=fun i o ho=>by have:=ah ho;rw [eo,if_pos (by omega)] at ho;exact ho
 have Q:Acc e f (P.take N) A P x:=⟨p,by
  rcases h with h | ⟨h0,q,h1,h2,d⟩
  ·exact .inl h
  ·exact .inr ⟨h0,q,by omega,h2,d⟩⟩
 obtain ⟨P',C,j,a1,a2,⟨a3,a4,a5⟩,U⟩:=acc_addM (b:=b) Q L (by omega) O D y;refine ⟨P',C,j,?_,?_,?_,fun w=>⟨(a3 w).1,?_⟩,U⟩
 ·rcases a1.val with ⟨h1,-⟩ | ⟨h1,q,h2,d,G⟩
  ·simp at h1
  ·exact .inr ⟨h1,q,by omega,d,G⟩
 ·intro k o V ho;have:=a1.pre k o (by rw [eo,if_pos V]; exact ho);exact this
 ·have h1:=ah (show P'[P.length+1]? = some (.cells e ((A++[y]).flatMap f)) from by
   rcases a1.val with ⟨h1,-⟩ | ⟨h1,q,h2,d,G⟩
   ·simp at h1
   ·rw [a5] at d;simp only [AVal.slice.injEq,fq,pb] at d;rw [d.1.1]; exact G)
  omega
 ·have:=a2 w;omega
def BlobS (I:SI) (H:List AObj) (v:AVal) (l:Bs):Prop:=BlobV H v l∧∀ p o n c,v = .slice (some (p,o)) n c→p≠I.fi.fb∧p≠I.fi.fw
section
variable {H H':List AObj} {b w t:Nat} {I:SI} {F F0:Fl} {K K0:StU}
theorem BlobS.mono {v:AVal} {l:Bs} (h:BlobS I H v l) (j:StA H I F K) (k:StF I H H'):BlobS I H' v l:=by
 obtain ⟨⟨a,c,rfl,h1,h2⟩,q⟩:=h;refine ⟨⟨a,c,rfl,fun p o d=>fg (h1 p o d) k.len,?_⟩,q⟩;rcases h2 with h2 | ⟨p,o,rfl,y,A⟩
 ·exact .inl h2
 ·refine .inr ⟨p,o,rfl,y.mono fun x hx=>?_,A⟩;obtain ⟨C,D⟩:=q p o _ _ rfl;obtain ⟨-,X,d,-⟩:=y;rw [d] at hx;cases hx;exact k.keep _ _ d (fun e=>by rw [e,j.s] at d; simp at d) (fun e=>by rw [e,j.r] at d; simp at d) (fun e=>by rw [e,j.m] at d; simp [StU.map] at d) C D
theorem StA.low (h:StA H I F K) {N:Nat} (e:I.hi < N∧I.fi.fl < N) (d:∀ (k:Nat) (o:AObj),k < N→H[k]? = some o→H'[k]? = some o):StA H' I F K:=by
 have j:I.fi.fb≤I.hi∧I.fi.fw≤I.hi∧I.s≤I.hi∧I.sa≤I.hi∧I.m≤I.hi:=by unfold SI.hi; omega
 exact ⟨h.fl.keep fun i o ho hi=>d i o (by rcases hi with rfl | rfl | rfl <;> omega) ho,d _ _ (by omega) h.s,d _ _ (by omega) h.r,d _ _ (by omega) h.m,h.ln,h.hd,h.ab,h.sb,h.tb⟩
theorem StF.low {H0:List AObj} (h:StF I H0 H) (d:H.length≤H'.length) (e:∀ (k:Nat) (o:AObj),k < H0.length→H[k]? = some o→H'[k]? = some o):StF I H0 H' :=
 ⟨de h.len d,fun k o ho h1 h2 j p q=>e k o (ah ho) (h.keep k o ho h1 h2 j p q)⟩
theorem StF.above (h:StF I H H') {N:Nat} (d:I.hi < N) (k:Nat) (o:AObj) (e:N≤k) (ho:H[k]? = some o):H'[k]? = some o:=by
 have j:I.fi.fb≤I.hi∧I.fi.fw≤I.hi∧I.s≤I.hi∧I.sa≤I.hi∧I.m≤I.hi:=by unfold SI.hi; omega
 exact h.keep k o ho (by omega) (by omega) (by omega) (by omega) (by omega)
theorem zat {a j:Nat} {r:RecU} (h:a+r.size≤F.b.length) (d:j < a∨a+r.size≤j):(F.laid a r).b[j]? = F.b[j]?:=by
 have e:=zab r;have p:(spliceB F.b a (recB r)).length=F.b.length:=gw (by omega);show (spliceB (spliceB F.b a (recB r)) (a+(recB r).length) [0])[j]? = _;rw [lg (by rw [p]; show _+1≤_; omega),lg (by omega)];rcases d with d | d
 ·rw [if_pos (by omega),if_pos d]
 ·rw [if_neg (by omega),if_neg (by show ¬ _ < _+1; omega),if_neg (by omega),if_neg (by omega)]
abbrev FV:=Nat × RecU × AVal
def FV.cells (x:FV):List AVal:=.int .i64 x.1 :: x.2.1.cells x.2.2
def RecU.at (t:Nat) (r:RecU):RecU:={ r with txn:=t }
theorem RecU.at_size (t:Nat) (r:RecU):(r.at t).size=r.size:=rfl
def layAll (q t:Nat):List RecU→Fl→Nat→Fl
 | [],F,_=>F
 | r :: l,F,a=>layAll q t l (F.laid (q+a) (r.at t)) (a+r.size)
def founds (t:Nat):List RV→Nat→List FV
 | [],_=>[]
 | p :: l,a=>(a,p.1.at t,p.2) :: founds t l (a+p.1.size)
section
attribute [-simp] getElem?_pos getElem?_neg List.all_eq_true
attribute [local simp] qZ qS nltT nltF iltT iltF ileT nleT di
theorem l577b {H0:List AObj} {L:List RV} {la:Option (Nat × Nat)} {lc:Option Nat} (hR:Row H0 5 RV.cells L la) (hN:I.hi < H0.length∧I.fi.fl < H0.length) (hb:I.lo b) (O:b≤H0.length) (aa:L.length≤16) {hd:Nat}
  (q:StA H0 I F0 K0) (Q:∀ p ∈ L,BlobS I H0 p.2 p.1.blob) (U:0 < t∧t < 4294967296) (V:∀ p ∈ L,(p.1.at t).right=true):∀ (j i w:Nat) (P:List AObj) (F:Fl) (K:StU) (A:List FV) (x:AVal),i+j=L.length→A.length=i→StA P I F K→StF I H0 P→FRow H0.length 6 FV.cells A P x→K.head=hd→K.txn=t →
   K.at_+sizes ((L.drop i).map Prod.fst)≤F.z→(∀ m,K.at_≤m→m < F.z→F.b[hd*F.z+m]? = some 255) →
  ∃ P' x' w',min w b≤w'∧StA P' I (layAll (hd*F.z) t ((L.drop i).map Prod.fst) F K.at_) { K with at_:=K.at_+sizes ((L.drop i).map Prod.fst) }∧StF I H0 P'∧FRow H0.length 6 FV.cells (A++founds t (L.drop i) K.at_) P' x'∧∀ {β:Type} (k:AExit→St→Option β),
  xK T (.loop code577L1) ⟨[(0,.val (.ptr (some (I.s,0)))),(1,.val (.slice la L.length lc)),(5,.val x),(19,.val (.slice la L.length lc)),(20,.val (.int .i64 L.length)),(21,.val (.int .i64 i))],⟨P,b,w⟩⟩ (k:=⟨k⟩) =
   k (.exit 0) ⟨[(0,.val (.ptr (some (I.s,0)))),(1,.val (.slice la L.length lc)),(5,.val x')],⟨P',b,w'⟩⟩
 | 0,i,w,P,F,K,A,x,hi,hA,h,N,hx,hh,ht,C,D=>by
  have hd:L.drop i=[]:=dk (by omega);refine ⟨P,x,w,cr _ _,?_,N,?_,fun k=>?_⟩
  ·rw [hd]; exact h
  ·rw [hd]; unfold founds; rw [gt]; exact hx
  ·rw [b9];simp (disch:=omega) [code577L1]
 | j+1,i,w,P,F,K,A,x,hi,hA,h,N,hx,hh,ht,C,D=>by
  obtain ⟨p,hp⟩:∃ p,L[i]? = some p:=⟨_,ai (by omega)⟩;obtain ⟨bb,o,cs,rfl,W,G⟩:=hR.at' (lx hp);obtain ⟨p1,p2⟩:=G i p hp;have X:=br hp;have J:=iy hp
  have ac:P[bb]? = some (.cells 5 cs):=by have d:H0[bb]? = some (.cells 5 cs):=W;exact N.keep _ _ d (fun e=>by rw [e,q.s] at d; simp at d) (fun e=>by rw [e,q.r] at d; simp at d) (fun e=>by rw [e,q.m] at d; simp [StU.map] at d) (fun e=>by rw [e,q.fl.b] at d; simp at d) (fun e=>by rw [e,q.fl.w] at d; simp at d)
  have a0:=(Q p X).mono q N
  have ad:K.at_+(p.1.at t).size+sizes ((L.drop (i+1)).map Prod.fst)≤F.z:=by rw [J,bi] at C;unfold sizes at C ⊢;rw [bi,dz] at C;rw [RecU.at_size]; omega
  obtain ⟨P1,n1,k1,s1,w1,x1⟩:=p601 (b:=b) h hb (r:=p.1.at t) (v:=p.2) a0.1 (V p X) U.2 hh (by omega) D;have al:H0.length≤P1.length:=de N.len k1.len;have an:=hx.mono (k1.above hN.1);obtain ⟨P2,x2,n2,ao,a2,a3,a4,a5⟩:=an.add (b:=b) (by':=72) (fun _=>rfl) al O (by omega) (by omega) (K.at_,p.1.at t,p.2);have s2:=s1.low hN a2;have ax:=(N.trans k1).low a3 a2
  have ay:hd < F.n:=by
   rcases h.hd with e | ⟨y,e,hy⟩
   ·omega
   ·omega
  have b7:=(h.fl.sec_len ay).2
  obtain ⟨P',x',w',i0,i1,i2,i3,i4⟩:=l577b (lc:=lc) hR hN hb O aa q Q U V j (i+1) (n2 (n1 w)) P2 _ _ _ x2 (by omega) (by rw [au]; simp; omega) s2 ax ao hh ht ad (fun m a6 b5=>by rw [zat (by omega) (.inr (by show hd*F.z+K.at_+(p.1.at t).size≤hd*F.z+m; simp only at a6; omega))];exact D m (by simp only at a6; omega) b5)
  have e2:((i+1:Nat):Int)=(i:Int)+1:=by omega
  refine ⟨P',x',w',by have:=(w1 w).2; have:=(a4 (n1 w)).2; omega,?_,i2,?_,fun k=>?_⟩
  ·rw [J,bi];unfold sizes at i1 ⊢;rw [bi,dz];simp only [RecU.at_size] at i1;rw [lz] at i1;exact i1
  ·rw [J];unfold founds;rw [ba] at i3;exact i3
  ·have ih:=i4 k;rw [e2] at ih;rw [b9,← ih];have g1:=h.s;unfold StU.cells at g1;rw [ht] at g1;obtain ⟨⟨va,vc,hv,-,-⟩,-⟩:=a0;have b6:RV.cells p=[.int .i64 p.1.kind,.int .u32 p.1.txn,.str p.1.key,p.2,.int .i64 p.1.count]:=rfl;rw [b6] at p2;unfold FV.cells at a5;unfold RecU.cells RecU.at at x1 a5;simp only at x1 a5;generalize ACode.loop code577L1=LL;simp (disch:=omega) [code577L1,-d7,ac,p1,p2,g1,x1,a5]
end
end
end Go.Abs.AbsBlb

namespace Go.Abs.AbsBlb
open Go.Abs.Short
def applyAll (hd:Nat) (A:List FV) (K:StU):StU:=A.foldl (fun K x=>K.apply hd x.1 x.2.1) K
theorem apply_eq (K:StU) (sec at_:Nat) (r:RecU):(K.apply sec at_ r).secs=K.secs∧(K.apply sec at_ r).head=K.head∧(K.apply sec at_ r).at_=K.at_∧(K.apply sec at_ r).txn=K.txn∧(K.apply sec at_ r).seq=K.seq∧(K.apply sec at_ r).down=K.down:=by
 unfold StU.apply;split
 ·exact del_eq K _
 ·exact put_eq K _ _
section
variable {H H':List AObj} {b w t:Nat} {I:SI} {F F0:Fl} {K K0:StU}
section
attribute [-simp] getElem?_pos getElem?_neg List.all_eq_true
attribute [local simp] qZ qS nltT nltF iltT iltF ileT nleT di
theorem l577a {H0:List AObj} {A:List FV} {la:Option (Nat × Nat)} {lc:Option Nat} (hR:Row H0 6 FV.cells A la) (hb:I.lo b) (N:A.length≤16) {hd:Nat}
  (q:StA H0 I F0 K0) (C:∀ p ∈ A,BlobS I H0 p.2.2 p.2.1.blob):∀ (j i w:Nat) (P:List AObj) (K:StU),i+j=A.length→StA P I F K→StF I H0 P→K.head=hd →
  ∃ P' w',min w b≤w'∧StA P' I F (applyAll hd (A.drop i) K)∧StF I H0 P'∧w'≤w∧∀ {β:Type} (k:AExit→St→Option β),
  xK T (.loop code577L0) ⟨[(0,.val (.ptr (some (I.s,0)))),(59,.val (.slice la A.length lc)),(60,.val (.int .i64 A.length)),(61,.val (.int .i64 i))],⟨P,b,w⟩⟩ (k:=⟨k⟩) =
   k (.exit 2) ⟨[],⟨P',b,w'⟩⟩
 | 0,i,w,P,K,hi,h,D,O=>by
  have hd:A.drop i=[]:=dk (by omega);refine ⟨P,w,cr _ _,?_,D,aj _,fun k=>?_⟩
  ·rw [hd]; exact h
  ·rw [b9];simp (disch:=omega) [code577L0]
 | j+1,i,w,P,K,hi,h,D,O=>by
  obtain ⟨p,L⟩:∃ p,A[i]? = some p:=⟨_,ai (by omega)⟩;obtain ⟨bb,o,cs,rfl,G,y⟩:=hR.at' (lx L);obtain ⟨p1,p2⟩:=y i p L;have Q:=br L;have U:=iy L
  have V:P[bb]? = some (.cells 6 cs):=by have d:H0[bb]? = some (.cells 6 cs):=G;exact D.keep _ _ d (fun e=>by rw [e,q.s] at d; simp at d) (fun e=>by rw [e,q.r] at d; simp at d) (fun e=>by rw [e,q.m] at d; simp [StU.map] at d) (fun e=>by rw [e,q.fl.b] at d; simp at d) (fun e=>by rw [e,q.fl.w] at d; simp at d)
  have J:=(C p Q).mono q D;obtain ⟨P1,n1,k1,l1,s1,w1,x1⟩:=p600 (b:=b) h hb (r:=p.2.1) (v:=p.2.2) J.1 hd p.1;obtain ⟨P',w',i0,i1,i2,i3,i4⟩:=l577a (lc:=lc) hR hb N q C j (i+1) (n1 w) P1 _ (by omega) s1 (D.trans k1) (by rw [(apply_eq K hd p.1 p.2.1).2.1]; exact O);have e2:((i+1:Nat):Int)=(i:Int)+1:=by omega
  refine ⟨P',w',by have:=(w1 w).2; omega,?_,i2,de i3 (w1 w).1,fun k=>?_⟩
  ·rw [U];exact i1
  ·have ih:=i4 k;rw [e2] at ih;rw [b9,← ih];have W:=h.s;unfold StU.cells at W;rw [O] at W;obtain ⟨⟨va,vc,hv,-,-⟩,-⟩:=J;have X:FV.cells p=[.int .i64 p.1,.int .i64 p.2.1.kind,.int .u32 p.2.1.txn,.str p.2.1.key,p.2.2,.int .i64 p.2.1.count]:=rfl;rw [X] at p2;unfold RecU.cells at x1;generalize ACode.loop code577L0=LL;simp (disch:=omega) [code577L0,V,p1,p2,W,x1]
end
theorem zar {t:Nat}:∀ {L:List RV} {a:Nat} {x:FV},x ∈ founds t L a→∃ p ∈ L,x.2.1=p.1.at t∧x.2.2=p.2
 | [],a,x,h=>by cases h
 | p :: L,a,x,h=>by
  unfold founds at h;rcases cj.1 h with rfl | h
  ·exact ⟨p,a8 ..,rfl,rfl⟩
  ·obtain ⟨q,d,e⟩:=zar h;exact ⟨q,bd _ d,e⟩
theorem zas {t:Nat}:∀ {L:List RV} {a:Nat},(founds t L a).length=L.length
 | [],a=>rfl
 | p :: L,a=>by unfold founds; rw [cq,cq,zas]
def comR (t n:Nat):RecU:=⟨3,t,[],[],n⟩
def wroteF (F:Fl) (hd a t:Nat) (l:List RecU):Fl:=(layAll (hd*F.z) t l F a).laid (hd*F.z+(a+sizes l)) (comR t l.length)
def wroteK (K:StU) (hd:Nat) (L:List RV):StU:=applyAll hd (founds (K.txn+1) L K.at_) { K with txn:=K.txn+1,at_:=K.at_+sizes (L.map Prod.fst)+16 }
theorem StF.rows {α:Type} {e:Nat} {f:α→List AVal} {L:List α} {a:Option (Nat × Nat)} (k:StF I H H') (h:StA H I F K) (C:e=5∨e=6) (y:Row H e f L a):Row H' e f L a:=⟨fun p=>by
 obtain ⟨A,o,cs,rfl,d,j⟩:=y.at' p;refine ⟨A,o,cs,rfl,?_,j⟩;have q:¬ e=11∧¬ e=3∧¬ e=1:=by omega
 exact k.keep _ _ d (fun i=>by rw [i,h.s] at d; simp at d; omega) (fun i=>by rw [i,h.r] at d; simp at d; omega) (fun i=>by rw [i,h.m] at d; simp [StU.map] at d) (fun i=>by rw [i,h.fl.b] at d; simp at d; omega) (fun i=>by rw [i,h.fl.w] at d; simp at d; omega)⟩
theorem xq (q t:Nat):∀ (l:List RecU) (F:Fl) (a:Nat),(layAll q t l F a).n=F.n∧(layAll q t l F a).z=F.z∧(layAll q t l F a).lim=F.lim∧(layAll q t l F a).w=F.w
 | [],F,a=>⟨rfl,rfl,rfl,rfl⟩
 | r :: l,F,a=>xq q t l (F.laid (q+a) (r.at t)) (a+r.size)
theorem vw (q t:Nat) {j:Nat}:∀ (l:List RecU) (F:Fl) (a:Nat),q+a+sizes l≤F.b.length→(j < q+a∨q+a+sizes l≤j)→(layAll q t l F a).b[j]? = F.b[j]?∧(layAll q t l F a).b.length=F.b.length
 | [],F,a,_,_=>⟨rfl,rfl⟩
 | r :: l,F,a,h,C=>by
  have e:sizes (r :: l)=r.size+sizes l:=by unfold sizes; rw [bi,dz]
  have d:=zab (r.at t);rw [RecU.at_size] at d;have p:(spliceB F.b (q+a) (recB (r.at t))).length=F.b.length:=gw (by omega)
  have y:(F.laid (q+a) (r.at t)).b.length=F.b.length:=by
   show (spliceB (spliceB F.b (q+a) (recB (r.at t))) _ [0]).length=_
   rw [gw (by rw [p]; show _+1≤_; omega),p]
  obtain ⟨i1,A⟩:=vw q t (j:=j) l (F.laid (q+a) (r.at t)) (a+r.size) (by rw [y]; omega) (by omega);exact ⟨i1.trans (zat (by rw [RecU.at_size]; omega) (by rw [RecU.at_size]; omega)),A.trans y⟩
theorem p577 (h:StA H I F K) (hb:I.lo b) (W:b≤H.length) {L:List RV} {la:Option (Nat × Nat)} {lc:Option Nat} (hR:Row H 5 RV.cells L la) (X:L≠[]) (D:L.length≤16) (a0:∀ p ∈ L,BlobS I H p.2 p.1.blob) {t:Nat} (et:t=K.txn+1) (C:t < 4294967296) (a6:∀ p ∈ L,(p.1.at t).right=true)
  {hd:Nat} (hh:K.head=hd) (G:K.at_+sizes (L.map Prod.fst)+16≤F.z) (J:∀ m,K.at_≤m→m < F.z→F.b[hd*F.z+m]? = some 255) :
  ∃ H',∃ nx:Nat→Nat,StF I H H'∧StA H' I (wroteF F hd K.at_ t (L.map Prod.fst)) (wroteK K hd L)∧(∀ w,nx w≤I.hi∧min w b≤nx w) ∧
   ∀ w,xCall T 577 [.ptr (some (I.s,0)),.slice la L.length lc] ⟨H,b,w⟩=some (.int .i64 0,⟨H',b,nx w⟩):=by
 have aa:=h.hi;have ac:=ah h.fl.f;have s1:=h.own (K':={ K with txn:=t }) rfl ⟨rfl,rfl⟩ h.hd h.ab h.sb C;have k1:StF I H (H.set I.s (.cells 11 (({ K with txn:=t }:StU).cells F I))):=.own;have d:(H.set I.s (.cells 11 (({ K with txn:=t }:StU).cells F I))).length=H.length:=az;have hN:I.hi < (H.set I.s (.cells 11 (({ K with txn:=t }:StU).cells F I))).length∧I.fi.fl < (H.set I.s (.cells 11 (({ K with txn:=t }:StU).cells F I))).length:=by rw [d]; exact ⟨aa,ac⟩
 have ad:=k1.rows h (.inl rfl) hR;have A:=fun p hp=>(a0 p hp).mono h k1
 have al:hd < F.n:=by
  rcases h.hd with e | ⟨y,e,hy⟩
  ·omega
  ·omega
 have b6:=(h.fl.sec_len al).2;have g1:=h.s;generalize N:H.set I.s (.cells 11 (({ K with txn:=t }:StU).cells F I))=H1 at *;obtain ⟨P,x,w1,i0,i1,i2,i3,i4⟩:=l577b (lc:=lc) ad hN hb (by rw [d]; exact W) D s1 A ⟨by omega,C⟩ a6 L.length 0 (min H.length I.s) H1 F _ [] (.slice none 0 (some 0)) (by omega) rfl s1 .refl (.inl ⟨rfl,rfl⟩) hh rfl (by rw [ff]; show K.at_+_≤_; omega) J;simp only [ff,dw,bf] at i1 i3 i4;obtain ⟨z1,z2,z3,z4⟩:=xq (hd*F.z) t (L.map Prod.fst) F K.at_
 have an:(comR t L.length).right=true:=by
  unfold comR RecU.right rightB;have:¬ t=0:=by omega
  simp [this,D]
 obtain ⟨P2,n2,k2,s2,w2,x2⟩:=p601 (b:=b) i1 hb (r:=comR t L.length) (v:=.slice none 0 (some 0)) ⟨none,some 0,rfl,(fun p o h=>by cases h),.inl rfl⟩ an C (hd:=hd) hh (by rw [z2]; exact G) (fun m ao O=>by rw [z2] at O ⊢;simp only at ao;rw [(vw (hd*F.z) t _ F K.at_ (by omega) (.inr (by omega))).1];exact J m (by omega) O)
 have j:(founds t L K.at_).length=L.length:=zas;have Q:founds t L K.at_≠[]:=fun e=>by rw [e] at j; exact X (bn j.symm)
 rcases i3 with ⟨e,-⟩ | ⟨-,q,q1,rfl,q3⟩
 ·exact absurd e Q
 have ax:Row P2 6 FV.cells (founds t L K.at_) (some (q,0)):=Row.mk0 (fun _=>rfl) (k2.above hN.1 _ _ q1 q3);have U:=i2.trans k2
 obtain ⟨P3,V,j0,j1,j2,j3,j4⟩:=l577a (lc:=none) ax hb (by omega) s2 (fun y hy=>by obtain ⟨p,hp,e1,e2⟩:=zar hy;rw [e1,e2];exact (A p hp).mono s1 U) (founds t L K.at_).length 0 (n2 w1) P2 _ (by omega) s2 .refl hh
 simp only [ff,bf] at j1 j4;have b7:V≤I.hi:=de j3 (w2 _).1;have bb:=hb.1;have bm:b≤V:=by have:=(w2 w1).2; omega
 have ay:(comR t L.length).size=16:=rfl;refine ⟨P3,fun w=>min w V,(k1.trans U).trans j2,?_,fun w=>by show min w V≤_∧_≤min w V; omega,fun w=>?_⟩
 ·rw [ay,z2] at j1;unfold wroteF wroteK;rw [a7,← et];exact j1
 ·have g2:=i1.s;simp only [StU.cells] at g1 g2 N;unfold comR RecU.cells at x2;simp only [eq,bf] at x2;have b5:IntKind.u32.wrap ((K.txn:Int)+1)=(t:Int):=by rw [et]; rw [wrap32 (by omega)]; omega
  rw [j] at j4;have bx:=hb.1;simp (disch:=omega) [-getElem?_pos,-getElem?_neg,-List.all_eq_true,qZ,qS,nltT,nltF,iltT,iltF,ileT,nleT,di,bg t577,code577,g1,g2,N,i4,x2,b5,j4,j]
end
end Go.Abs.AbsBlb

namespace Go.Abs.AbsBlb
open Go.Abs.Short
def rdId (s:Slots) (x:Opd):List Nat:=match x.ev s with
 | some v=>v.ids
 | none=>[]
theorem lq (o:AOp) (s:Slots):ew o s=(ef o).flatMap (rdId s):=rfl
theorem lr (s:Slots) (t:Nat):rdId s (.tmp t)=match (Opd.tmp t).ev s with
 | some v=>v.ids
 | none=>[]:=rfl
theorem jf (s:Slots) (v:AVal):rdId s (.const v)=v.ids:=rfl
structure TapA (H:List AObj) (tp:Nat) (v:AVal) (B:Bs) (at_:Nat):Prop where
 r:H[tp]? = some (.cells 2 [v,.int .i64 at_])
 v:BlobV H v B
 l:B.length≤1000000
 a:at_≤B.length
section
variable {H H':List AObj} {b w tp at_:Nat} {B:Bs}
end
end Go.Abs.AbsBlb

namespace Go.Abs.AbsBlb
open Go.Abs.Short
theorem FRow.add' {α:Type} {N e b:Nat} {f:α→List AVal} {A:List α} {P:List AObj} {x:AVal} (h:FRow N e f A P x) (L:∀ y,(f y).length=e) (W:N≤P.length) (hb:b≤N) {by':Nat} (O:(A.length+1)*by'≤140737488355328) (D:A.length≤1000000000) (y:α) :
  ∃ P' C,∃ j:Nat→Nat,FRow N e f (A++[y]) P' C∧(∀ (k:Nat) (o:AObj),P[k]? = some o→(N≤k→∀ cs,o ≠ .cells e cs)→P'[k]? = some o)∧P.length≤P'.length∧(∀ w,j w≤w∧min w N≤j w) ∧
   ∀ w,d7 e by' ⟨P++[.cells e (f y)],b,w⟩ x (.slice (some (P.length,0)) 1 (some 1))=some (C,⟨P',b,j w⟩):=by
 have J:(P.take N).length=N:=by rw [db]; omega
 have p:Pre (P.take N) P:=fun i o ho=>by have:=ah ho;rw [eo,if_pos (by omega)] at ho;exact ho
 have Q:Acc e f (P.take N) A P x:=⟨p,by
  rcases h with h | ⟨h0,q,h1,h2,d⟩
  ·exact .inl h
  ·exact .inr ⟨h0,q,by omega,h2,d⟩⟩
 obtain ⟨P',C,j,a1,a2,⟨a3,a4,a5⟩,U⟩:=acc_addM (b:=b) Q L (by omega) O D y;refine ⟨P',C,j,?_,?_,?_,fun w=>⟨(a3 w).1,?_⟩,U⟩
 ·rcases a1.val with ⟨h1,-⟩ | ⟨h1,q,h2,d,G⟩
  ·simp at h1
  ·exact .inr ⟨h1,q,by omega,d,G⟩
 ·intro k o ho V;refine a4 k o ho fun e=>?_
  rcases h with ⟨-,h2⟩ | ⟨h0,q,h1,h2,d⟩
  ·rw [h2] at e; cases e
  ·rw [h2] at e;simp only [AVal.slice.injEq,fq,pb,and_true] at e;obtain rfl:=e;rw [d] at ho;exact V h1 _ (ce ho).symm
 ·have h1:=ah (show P'[P.length+1]? = some (.cells e ((A++[y]).flatMap f)) from by
   rcases a1.val with ⟨h1,-⟩ | ⟨h1,q,h2,d,G⟩
   ·simp at h1
   ·rw [a5] at d;simp only [AVal.slice.injEq,fq,pb] at d;rw [d.1.1]; exact G)
  omega
 ·have:=a2 w;omega
structure ChU where
 del:Bool
 key:Bs
 blob:Bs
 v:AVal
def ChU.cells (c:ChU):List AVal:=[.bool c.del,.str c.key,c.v]
def keyL:List Bs:=[[97],[98],[99],[100,47,49],[100,47,50],[97]]
def ChU.ok (N:Nat) (P:List AObj) (c:ChU):Prop:=BlobV P c.v c.blob∧(∀ p o n k,c.v = .slice (some (p,o)) n k→N≤p∧∃ X,P[p]? = some (.cells 1 X))∧c.key ∈ keyL∧c.blob.length≤30∧∃ p o n k,c.v = .slice (some (p,o)) n k
section
variable {H H':List AObj} {b w tp at_:Nat} {B:Bs}
end
end Go.Abs.AbsBlb

namespace Go.Abs.AbsBlb
open Go.Abs.Short
theorem idsL_sec (L:List Sec):AVal.idsL (L.flatMap Sec.cells)=[]:=idsL_none fun x hx=>by obtain ⟨s,-,hs⟩:=dx.1 hx;simp [Sec.cells] at hs;rcases hs with rfl | rfl | rfl <;> rfl
theorem renL_sec (L:List Sec) (g:Nat→Nat):AVal.renL g (L.flatMap Sec.cells)=L.flatMap Sec.cells:=renL_none fun x hx=>by obtain ⟨s,-,hs⟩:=dx.1 hx;simp [Sec.cells] at hs;rcases hs with rfl | rfl | rfl <;> rfl
section
variable {H:List AObj} {b w:Nat} {I:SI} {F:Fl} {K:StU}
theorem s563 (h:StA H I F K) (e:F.n=4) (j:F.z=128):xCall T 563 [.ptr (some (I.s,0))] ⟨H,b,w⟩=some (.int .i64 58,⟨H,b,w⟩):=by have d:=h.s;unfold StU.cells at d;rw [e,j] at d;simp (disch:=omega) [-getElem?_pos,-getElem?_neg,-List.all_eq_true,qZ,qS,nltT,nltF,iltT,iltF,ileT,nleT,di,bg t563,code563,d]
theorem ext_look (h:StA H I F K) {k:Bs} {z:AVal}:ct (.lookup (.one .s) z true) [.map (some I.m),.str k] ⟨H,b,w⟩=some (match findK k K.ix with
  | some x=>.tuple [x.2.val,.bool true]
  | none=>.tuple [z,.bool false],⟨H,b,w⟩):=by
 have d:H[I.m]? = some (.map (K.ix.map entV) K.clock):=h.m;have e:=ti k K.ix;have hi:isKey (.one .s) (.str k)=true:=rfl;unfold ct;simp only [hi,if_true,entriesOf,Heap.get,d,e];cases findK k K.ix <;> rfl
section
attribute [-simp] getElem?_pos getElem?_neg List.all_eq_true
attribute [local simp] qZ qS nltT nltF iltT iltF ileT nleT di
theorem s482 (h:StA H I F K) {k:Bs} {x:Nat × PlU} (C:findK k K.ix=some x) (q:x.2.blob.length≤1000000):xCall T 482 [.ptr (some (I.s,0)),.str k] ⟨H,b,w⟩=some (.tuple [.slice (some (H.length,0)) x.2.blob.length none,.bool true],⟨H++[.cells 1 (x.2.blob.map u8V)],b,w⟩):=by
 have y:=h.s;unfold StU.cells at y;have p:=fun w z=>ext_look (b:=b) (w:=w) h (k:=k) (z:=z)
 rw [C] at p;obtain ⟨n,d⟩:=x;simp only [PlU.val] at p;have hm:d.blob.map (fun b:UInt8=>AVal.int .u8 b.toNat)=d.blob.map u8V:=rfl;simp only at q;have e:AVal.idsL (d.blob.map u8V)=[]:=ml _;have A:(d.blob.map u8V).length=d.blob.length:=a7 _;have j:∀ g,AVal.renL g (d.blob.map u8V)=d.blob.map u8V:=fun g=>ov g _
 simp (disch:=omega) [bg t482,code482,-ct,y,p,jz,j9,e,j,wj,hm,q]
theorem s482n (h:StA H I F K) {k:Bs} (j:findK k K.ix=none):xCall T 482 [.ptr (some (I.s,0)),.str k] ⟨H,b,w⟩=some (.tuple [.slice (some (H.length,0)) 0 none,.bool false],⟨H++[.cells 1 []],b,w⟩):=by
 have d:=h.s;unfold StU.cells at d;have e:=fun w z=>ext_look (b:=b) (w:=w) h (k:=k) (z:=z)
 rw [j] at e;simp (disch:=omega) [bg t482,code482,-ct,d,e,jz,j9,wj]
end
end
end Go.Abs.AbsBlb

namespace Go.Abs.AbsBlb
open Go.Abs.Short
def ksE:Nat→List Bs→List (AVal × AVal × Nat)
 | _,[]=>[]
 | i,k :: r=>(.str k,.bool true,i) :: ksE (i+1) r
def setM (S:List Bs):AObj:=.map (ksE 0 S) S.length
def addK (S:List Bs) (k:Bs):List Bs:=if k ∈ S then S else S++[k]
theorem ksE_app:∀ (i:Nat) (S:List Bs) (k:Bs),ksE i (S++[k])=ksE i S++[(.str k,.bool true,i+S.length)]
 | i,[],k=>rfl
 | i,x :: S,k=>by rw [fh];unfold ksE;rw [ksE_app (i+1) S k,fh,cq,show i+1+S.length=i+(S.length+1) from by omega]
theorem ksE_len:∀ (i:Nat) (S:List Bs),(ksE i S).length=S.length
 | i,[]=>rfl
 | i,x :: S=>by unfold ksE; rw [cq,cq,ksE_len (i+1) S]
theorem ksE_find (k:Bs):∀ (i:Nat) (S:List Bs),(k ∈ S∧∃ j,findA (.str k) (ksE i S)=some (some (j,.bool true))∧(ksE i S).modify j (fun e=>(.str k,.bool true,e.2.2))=ksE i S)∨(k ∉ S∧findA (.str k) (ksE i S)=some none)
 | i,[]=>.inr ⟨by simp,rfl⟩
 | i,x :: S=>by
  have p:akey (.str k) (.str x)=some (decide (k=x)):=by simp [akey,akey1]
  by_cases c:k=x
  ·have d:akey (.str k) (.str x)=some true:=by rw [p,decide_eq_true c]
   refine .inl ⟨by rw [c]; exact a8 ..,0,?_,?_⟩
   ·unfold ksE findA;simp only [d]
   ·unfold ksE;rw [c]; rfl
  ·have d:akey (.str k) (.str x)=some false:=by rw [p,decide_eq_false c]
   rcases ksE_find k (i+1) S with ⟨h1,j,h2,q⟩ | ⟨h1,h2⟩
   ·refine .inl ⟨bd _ h1,j+1,?_,?_⟩
    ·unfold ksE findA;simp only [d,h2]; rfl
    ·unfold ksE;rw [List.modify_succ_cons,q]
   ·refine .inr ⟨fun h=>?_,?_⟩
    ·rcases cj.1 h with h | h
     ·exact c h
     ·exact h1 h
    ·unfold ksE findA;simp only [d,h2]; rfl
section
variable {H:List AObj} {b w m:Nat} {S:List Bs}
theorem ext_key (h:H[m]? = some (setM S)) {k:Bs} (hb:b≤m):ct (.mapupd (.one .s)) [.map (some m),.str k,.bool true] ⟨H,b,w⟩=some (.tuple [],⟨H.set m (setM (addK S k)),b,min w m⟩):=by
 have hi:isKey (.one .s) (.str k)=true:=rfl;unfold setM at h;unfold ct addK setM;rcases ksE_find k 0 S with ⟨h1,j,h2,d⟩ | ⟨h1,h2⟩
 ·rw [if_pos h1];simp only [hi,Heap.get,h,hb,and_self,if_true,h2,Heap.put,d]
 ·rw [if_neg h1,ksE_app];simp only [hi,Heap.get,h,hb,and_self,if_true,h2,Heap.put,dq,au,cq,eq]
theorem s465z {p o:Nat} {c:Option Nat}:xCall T 100465 [.slice (some (p,o)) 0 c] ⟨H,b,w⟩=some (.slice (some (H.length,0)) 0 (some 0),⟨H++[.cells 1 []],b,w⟩):=by simp (disch:=omega) [-getElem?_pos,-getElem?_neg,-List.all_eq_true,qZ,qS,nltT,nltF,iltT,iltF,ileT,nleT,di,bg t100465,code100465,jz,j9,wj]
theorem p465 {v:AVal} {l:Bs} {p o n:Nat} {c:Option Nat} (y:BlobV H v l) (q:v = .slice (some (p,o)) n c) (D:l.length≤1000000) :
  ∃ c',(∀ w,xCall T 100465 [v] ⟨H,b,w⟩=some (.slice (some (H.length,0)) l.length c',⟨H++[.cells 1 (l.map u8V)],b,w⟩))∧l.length≤c'.getD l.length:=by
 obtain ⟨a,d,rfl,h2,j⟩:=y;simp only [AVal.slice.injEq] at q;obtain ⟨rfl,rfl,rfl⟩:=q;by_cases h0:l=[]
 ·subst h0;exact ⟨some 0,fun w=>s465z,aj _⟩
 ·rcases j with j | ⟨G,J,e,⟨L,X,A,C⟩,N⟩
  ·exact absurd j h0
  ·simp only [fq,pb] at e;obtain ⟨rfl,rfl⟩:=e;exact ⟨none,fun w=>s100465 A C rfl (kg.2 h0) (by omega),aj _⟩
end
end Go.Abs.AbsBlb

namespace Go.Abs.AbsBlb
open Go.Abs.Short
theorem FRow.monoE {α:Type} {N e:Nat} {f:α→List AVal} {A:List α} {P P':List AObj} {x:AVal} (h:FRow N e f A P x) (d:∀ (k:Nat) (cs:List AVal),N≤k→P[k]? = some (.cells e cs)→P'[k]? = some (.cells e cs)):FRow N e f A P' x:=by
 rcases h with h | ⟨h0,q,h1,h2,j⟩
 ·exact .inl h
 ·exact .inr ⟨h0,q,h1,h2,d _ _ h1 j⟩
def ChU.toR (c:ChU):RecU:=if c.del then ⟨2,1,c.key,[],0⟩ else ⟨1,1,c.key,c.blob,0⟩
def RV.new (N:Nat) (P:List AObj) (p:RV):Prop:=BlobV P p.2 p.1.blob∧∀ q o n k,p.2 = .slice (some (q,o)) n k→N≤q∧∃ X,P[q]? = some (.cells 1 X)
theorem RV.new.mono {N:Nat} {P P':List AObj} {p:RV} (h:p.new N P) (A:P.length≤P'.length) (y:∀ (k:Nat) (X:List AVal),N≤k→P[k]? = some (.cells 1 X)→P'[k]? = some (.cells 1 X)):p.new N P':=by
 obtain ⟨h1,h2⟩:=h;refine ⟨h1.mono A fun q o n k e x hx=>?_,fun q o n k e=>?_⟩
 ·obtain ⟨d,X,j⟩:=h2 q o n k e;rw [j] at hx;cases hx;exact y _ _ d j
 ·obtain ⟨d,X,j⟩:=h2 q o n k e;exact ⟨d,X,y _ _ d j⟩
def ChU.fine (H:List AObj) (c:ChU):Prop:=BlobV H c.v c.blob∧(∃ p o n k,c.v = .slice (some (p,o)) n k)∧1≤c.key.length∧c.key.length≤64∧c.blob.length≤4096
theorem ChU.fine.right {H:List AObj} {c:ChU} (h:c.fine H):c.toR.right=true∧c.toR.txn=1:=by
 obtain ⟨-,-,h1,h2,d⟩:=h;unfold ChU.toR RecU.right rightB;cases c.del
 ·simp [h1,h2,d]
 ·simp [h1,h2]
section
variable {H0:List AObj} {b m:Nat}
section
attribute [-simp] getElem?_pos getElem?_neg List.all_eq_true
attribute [local simp] qZ qS nltT nltF iltT iltF ileT nleT di
theorem l581 {L:List ChU} {la:Option (Nat × Nat)} {lc:Option Nat} (hR:Row H0 3 ChU.cells L la) (bm:L.length≤16) (hL:∀ c ∈ L,c.fine H0) (hb:b≤H0.length) (hm:m=H0.length):∀ (j i w:Nat) (P:List AObj) (S:List Bs) (A:List RV) (x:AVal),i+j=L.length→A.length=i→Pre H0 P→P[m]? = some (setM S)→FRow H0.length 5 RV.cells A P x→(∀ p ∈ A,p.new H0.length P) →
  ∃ (P':List AObj) (A':List RV) (x':AVal) (w':Nat),Pre H0 P'∧P'[m]? = some (setM ((L.drop i).foldl (fun S c=>addK S c.key) S))∧FRow H0.length 5 RV.cells (A++A') P' x'∧A'.map Prod.fst=(L.drop i).map ChU.toR∧(∀ p ∈ A++A',p.new H0.length P')∧(H0.length≤w→H0.length≤w')∧∀ {β:Type} (k:AExit→St→Option β),
  xK T (.loop code581L0) ⟨[(0,.val (.slice la L.length lc)),(4,.val (.map (some m))),(5,.val x),(20,.val (.slice la L.length lc)),(21,.val (.int .i64 L.length)),(22,.val (.int .i64 i))],⟨P,b,w⟩⟩ (k:=⟨k⟩) =
   k (.exit 0) ⟨[(0,.val (.slice la L.length lc)),(4,.val (.map (some m))),(5,.val x')],⟨P',b,w'⟩⟩
 | 0,i,w,P,S,A,x,hi,hA,Q,hs,hx,hn=>by have hd:L.drop i=[]:=dk (by omega);refine ⟨P,[],x,w,Q,by rw [hd]; exact hs,by rw [gt]; exact hx,by rw [hd]; rfl,by rw [gt]; exact hn,fun h=>h,fun k=>?_⟩;rw [b9];simp (disch:=omega) [code581L0]
 | j+1,i,w,P,S,A,x,hi,hA,Q,hs,hx,hn=>by
  obtain ⟨c,hc⟩:∃ c,L[i]? = some c:=⟨_,ai (by omega)⟩;obtain ⟨bb,o,cs,rfl,aa,U⟩:=hR.at' (lx hc);obtain ⟨p1,p2⟩:=U i c hc;have bx:=br hc;have G:=hL c bx;obtain ⟨hr,c4⟩:=G.right;obtain ⟨c5,⟨vp,vo,vn,vk,hv⟩,k1,k2,k3⟩:=G;have ac:=iy hc;have ad:P[bb]? = some (.cells 3 cs):=Q _ _ aa;have al:BlobV P c.v c.blob:=c5.mono Q.len fun _ _ _ _ _ x hx=>Q _ _ hx
  obtain ⟨c',y1,y2⟩:∃ c',(∀ w,xCall T 100465 [c.v] ⟨P,b,w⟩=some (.slice (some (P.length,0)) c.blob.length c',⟨P++[.cells 1 (c.blob.map u8V)],b,w⟩))∧c.blob.length≤c'.getD c.blob.length:=p465 al hv (by omega)
  have an:vp < P.length:=by obtain ⟨a,d,e,h2,-⟩:=al;rw [hv] at e;simp only [AVal.slice.injEq] at e;exact h2 vp vo e.1.symm
  have ao:=ah hs;have ci:=Q.len;let v:AVal:=if c.del then .slice none 0 (some 0) else .slice (some (P.length,0)) c.blob.length c'
  have J:(P++[AObj.cells 1 (c.blob.map u8V),AObj.cells 5 (c.toR.cells v)])[P.length]? = some (.cells 1 (c.blob.map u8V)):=by rw [aw (aj _),qh]; rfl
  have ax:RV.new H0.length (P++[AObj.cells 1 (c.blob.map u8V),AObj.cells 5 (c.toR.cells v)]) (c.toR,v):=by
   cases hd:c.del with
   | true =>
    have V:v = .slice none 0 (some 0):=if_pos hd;have N:c.toR.blob=[]:=by unfold ChU.toR; rw [hd]; rfl
    rw [V];refine ⟨⟨none,some 0,by rw [N]; rfl,(fun p o h=>by cases h),.inl N⟩,fun q o n k e=>by cases e⟩
   | false =>
    have V:v = .slice (some (P.length,0)) c.blob.length c':=if_neg (by rw [hd]; decide);have N:c.toR.blob=c.blob:=by unfold ChU.toR; rw [hd]; rfl
    rw [V] at J ⊢;refine ⟨⟨some (P.length,0),c',by rw [N],fun p o e=>?_,.inr ⟨P.length,0,rfl,by rw [N]; exact SlB.whole J rfl,by rw [N]; exact y2⟩⟩,fun q o n k e=>?_⟩
    ·simp only [fq,pb] at e;rw [← e.1]; exact ah J
    ·simp only [AVal.slice.injEq,fq,pb] at e;rw [← e.1.1];exact ⟨ci,_,J⟩
  have cp:BlobV (P++[AObj.cells 1 (c.blob.map u8V),AObj.cells 5 (c.toR.cells v)]) v c.toR.blob:=ax.1;have C:=fun w=>s596 (b:=b) (w:=w) cp hr (by rw [c4]; decide) (by rw [au]; omega)
  have ay:(P++[AObj.cells 1 (c.blob.map u8V),AObj.cells 5 (c.toR.cells v)]++[.cells 1 ((recB c.toR).map u8V)])[m]? = some (setM S):=by rw [ag (by rw [au]; omega),ag ao]; exact hs
  have W:=fun w=>ext_key (b:=b) (w:=w) ay (k:=c.key) (by omega)
  have a0:(P++[AObj.cells 1 (c.blob.map u8V),AObj.cells 5 (c.toR.cells v)]++[AObj.cells 1 ((recB c.toR).map u8V)]).length=P.length+3:=by simp
  have cv:=ke ay (y:=setM (addK S c.key))
  have D:(P++[AObj.cells 1 (c.blob.map u8V),AObj.cells 5 (c.toR.cells v)]++[AObj.cells 1 ((recB c.toR).map u8V)])[P.length+1]? = some (.cells 5 (c.toR.cells v)):=by rw [ba,aw (show P.length≤P.length+1 by omega),iw]; rfl
  generalize b5:P++[AObj.cells 1 (c.blob.map u8V),AObj.cells 5 (c.toR.cells v)]++[AObj.cells 1 ((recB c.toR).map u8V)]=P2 at *
  have up:∀ (k:Nat) (o:AObj),k≠m→P[k]? = some o→(P2.set m (setM (addK S c.key)))[k]? = some o:=fun k o W ho=>by rw [aq (fun e=>W e.symm),← b5,ba,ag (ah ho)]; exact ho
  have cx:(P2.set m (setM (addK S c.key))).length=P.length+3:=by rw [az,a0]
  have b6:∀ (k:Nat) (e:Nat) (cs:List AVal),P[k]? = some (.cells e cs)→(P2.set m (setM (addK S c.key)))[k]? = some (.cells e cs):=fun k e cs ho=>up k _ (fun e'=>by rw [e',hs] at ho; simp [setM] at ho) ho
  have cy:=hx.monoE (P':=P2.set m (setM (addK S c.key))) fun k cs W ho=>b6 k _ _ ho
  obtain ⟨P4,x4,n4,f1,f2,f3,f4,O⟩:=cy.add' (b:=b) (by':=64) (fun _=>rfl) (by omega) hb (by omega) (by omega) (c.toR,v)
  have b7:∀ p ∈ A++[(c.toR,v)],RV.new H0.length P4 p:=fun p d1=>by
   rcases bz.1 d1 with h4 | h4
   ·exact (hn p h4).mono (by omega) fun k X W ho=>f2 _ _ (b6 _ _ _ ho) fun _ cs e=>by simp at e
   ·rw [bk.1 h4];refine ax.mono (by rw [au]; simp; omega) fun k X W ho=>f2 _ _ ?_ fun _ cs e=>by simp at e
    have d2:m≠k:=fun e=>by rw [← e,ag ao,hs] at ho;simp [setM] at ho
    rw [aq d2,← b5,ag (ah ho)]; exact ho
  have a6:Pre H0 P4:=fun k o ho=>f2 _ _ (up k o (by have:=ah ho; omega) (Q _ _ ho)) fun h=>by have:=ah ho; omega
  have d3:=f2 _ _ cv fun _ cs e=>by simp [setM] at e
  obtain ⟨P',A',x',w',i1,i2,i3,i4,i5,i6,i7⟩:=l581 (lc:=lc) hR bm hL hb hm j (i+1) (n4 (min (min w (P.length+1)) m)) P4 _ _ x4 (by omega) (by rw [au]; simp; omega) a6 d3 f1 b7;refine ⟨P',(c.toR,v) :: A',x',w',i1,by rw [ac]; exact i2,by rw [ba] at i3; exact i3,by rw [ac,bi,bi,i4],fun p d4=>i5 p (by rw [ba]; exact d4),fun hw=>i6 (by have:=(f4 (min (min w (P.length+1)) m)).2; omega),fun k=>?_⟩;have ih:=i7 k;have N:((i+1:Nat):Int)=(i:Int)+1:=by omega
  rw [N] at ih;rw [b9,← ih];have d5:ChU.cells c=[.bool c.del,.str c.key,c.v]:=rfl;rw [d5] at p2;generalize ACode.loop code581L0=LL;rw [hv] at y1 p2;rw [cx] at O;unfold RV.cells RecU.cells at O;unfold RecU.cells at C D;cases hd:c.del with
  | true =>
   have V:v = .slice none 0 (some 0):=if_pos hd;have e3:c.toR=⟨2,1,c.key,[],0⟩:=by unfold ChU.toR; rw [hd]; rfl
   rw [V,e3] at C O D;rw [hd] at p2;simp only [bf] at C O D;simp (disch:=omega) [code581L0,-d7,-ct,-ew,lq,lr,jf,ad,p1,p2,y1,C,W,O,an,D,a0,ex]
  | false =>
   have V:v = .slice (some (P.length,0)) c.blob.length c':=if_neg (by rw [hd]; decide);have e3:c.toR=⟨1,1,c.key,c.blob,0⟩:=by unfold ChU.toR; rw [hd]; rfl
   rw [V,e3] at C O D;rw [hd] at p2;simp only [bf] at C O D;simp (disch:=omega) [code581L0,-d7,-ct,-ew,lq,lr,jf,ad,p1,p2,y1,C,W,O,an,D,a0,ex]
end
end
end Go.Abs.AbsBlb

namespace Go.Abs.AbsBlb
open Go.Abs.Short
theorem ite2 {α β:Type} {c d:Prop} [Decidable c] [Decidable d] (f:α→β) {x y z:α}:f (if c then x else if d then y else z)=if c then f x else if d then f y else f z:=by
 by_cases h:c
 ·rw [if_pos h,if_pos h]
 ·rw [if_neg h,if_neg h];by_cases k:d
  ·rw [if_pos k,if_pos k]
  ·rw [if_neg k,if_neg k]
theorem wh {O P:List AObj} {b w w':Nat} {v:AVal} (hw:O.length≤w'):dj ⟨O,b,w⟩ v ⟨P,b,w'⟩=((dj ⟨O,b,0⟩ v ⟨P,b,w'⟩).1,{ (dj ⟨O,b,0⟩ v ⟨P,b,w'⟩).2 with wmin:=w }):=by
 have h1:¬ w' < O.length:=by omega
 unfold dj;simp only [Heap.size,h1,if_false];exact Eq.symm (Eq.trans (ite2 (fun p:AVal × Heap=>(p.1,({ p.2 with wmin:=w }:Heap)))) rfl)
theorem finish_any {O P:List AObj} {b w':Nat} {v:AVal} (d:v.under O.length=false) (hw:O.length≤w') :
  (∀ w,dj ⟨O,b,w⟩ v ⟨P,b,w'⟩=(v,⟨P,b,w⟩)) ∨
  (∃ f I X,(∀ w,dj ⟨O,b,w⟩ v ⟨P,b,w'⟩=(v.ren f,⟨O++X,b,w⟩))∧Moves f I O.length P (O++X)∧(∀ j ∈ v.ids,O.length≤j→I j)):=by
 rcases finish_cases (h0:=⟨O,b,0⟩) (h:=⟨P,b,w'⟩) d with ⟨w1,e,-⟩ | ⟨-,f,I,X,e,hm,hi⟩
 ·exact .inl fun w=>by rw [wh hw,e]
 ·exact .inr ⟨f,I,X,fun w=>by rw [wh hw,e],hm,hi⟩
theorem SlB.moves {f:Nat→Nat} {I:Nat→Prop} {n:Nat} {O O':List AObj} (h:Moves f I n O O') {p o k:Nat} {l:Bs} (hs:SlB O p o k l) (hi:I p):SlB O' (f p) o k l:=by obtain ⟨h1,X,h2,d⟩:=hs;refine ⟨h1,AVal.renL f X,h.at' p _ hi h2,?_⟩;rw [qd,← List.map_drop,← List.map_take,d,← qd];exact ov f l
theorem BlobV.moves {f:Nat→Nat} {I:Nat→Prop} {n:Nat} {O O':List AObj} (h:Moves f I n O O') {v:AVal} {l:Bs} (d:BlobV O v l) (hi:∀ p o k c,v = .slice (some (p,o)) k c→I p∧∃ X,O[p]? = some (.cells 1 X)) :
  BlobV O' (v.ren f) l:=by
 obtain ⟨a,c,rfl,h1,h2⟩:=d;rw [ren_sl];refine ⟨renA f a,c,rfl,fun p o e=>?_,?_⟩
 ·cases a with
  | none=>cases e
  | some q =>
   obtain ⟨q,r⟩:=q;simp only [renA,fq,pb] at e;obtain ⟨j,X,y⟩:=hi q r _ _ rfl;rw [← e.1]; exact ah (h.at' q _ j y)
 ·rcases h2 with h2 | ⟨p,o,rfl,A,C⟩
  ·exact .inl h2
  ·exact .inr ⟨f p,o,rfl,A.moves h (hi p o _ _ rfl).1,C⟩
def RV.mv (f:Nat→Nat) (p:RV):RV:=(p.1,p.2.ren f)
theorem RV.mv_cells (f:Nat→Nat) (p:RV):AVal.renL f (RV.cells p)=RV.cells (p.mv f):=by simp [RV.cells,RecU.cells,RV.mv,AVal.renL,AVal.ren]
theorem RV.mv_flat (f:Nat→Nat) (A:List RV):AVal.renL f (A.flatMap RV.cells)=(A.map (RV.mv f)).flatMap RV.cells:=by
 induction A with
 | nil=>rfl
 | cons p A ih =>
  rw [d0,bi,d0,← ih,← RV.mv_cells,qd,qd,qd,ku]
theorem rows_fin {O P:List AObj} {b w':Nat} {A:List RV} {x:AVal} (mk:AVal→AVal) (h1:∀ y,(mk y).ids=y.ids) (h2:∀ f y,(mk y).ren f=mk (y.ren f)) (h3:∀ n p o k c,(mk (.slice (some (p,o)) k c)).under n=decide (p < n))
  (C:A≠[]) (hx:FRow O.length 5 RV.cells A P x) (D:∀ p ∈ A,p.new O.length P) (hp:Pre O P) (hw:O.length≤w') :
  ∃ H' N x',Pre O H'∧FRow O.length 5 RV.cells N H' x'∧N.map Prod.fst=A.map Prod.fst∧(∀ p ∈ N,p.new O.length H')∧∀ w,dj ⟨O,b,w⟩ (mk x) ⟨P,b,w'⟩=(mk x',⟨H',b,w⟩):=by
 rcases hx with ⟨h,-⟩ | ⟨-,q,Q,rfl,hr⟩
 ·exact absurd h C
 ·have hv:(mk (.slice (some (q,0)) A.length none)).under O.length=false:=by rw [h3]; exact decide_eq_false (by omega)
  rcases finish_any (b:=b) (P:=P) hv hw with e | ⟨f,I,X,e,hm,hi⟩
  ·exact ⟨P,A,_,hp,.inr ⟨C,q,Q,rfl,hr⟩,rfl,D,e⟩
  ·have G:I q:=hi q (by rw [h1]; simp [AVal.ids]) Q;have U:=hm.cl q _ G hr
   have J:∀ p ∈ A,∀ i o k c,p.2 = .slice (some (i,o)) k c→I i∧∃ X,P[i]? = some (.cells 1 X):=fun p j i o k c e=>by obtain ⟨V,W⟩:=(D p j).2 i o k c e;refine ⟨U i ?_ V,W⟩;show i ∈ AVal.idsL _;rw [ym,dx];refine ⟨p.2,dx.2 ⟨p,j,?_⟩,by rw [e]; simp [AVal.ids]⟩;simp [RV.cells,RecU.cells]
   refine ⟨O++X,A.map (RV.mv f),.slice (some (f q,0)) A.length none,fun k o hk=>by rw [ag (ah hk)]; exact hk,.inr ⟨by simpa using C,f q,hm.up q Q,by rw [a7],?_⟩,?_,?_,fun w=>?_⟩
   ·have:=hm.at' q _ G hr;rw [this,← RV.mv_flat]; rfl
   ·rw [ut]; rfl
   ·intro p' a0;obtain ⟨p,j,rfl⟩:=bt.1 a0;refine ⟨(D p j).1.moves hm (J p j),fun i o k c e=>?_⟩;obtain ⟨r,v⟩:=p;obtain ⟨⟨a,d,L,-,-⟩,-⟩:=D _ j;simp only at L;subst L;have e:(AVal.slice a r.blob.length d).ren f = .slice (some (i,o)) k c:=e;rw [ren_sl] at e;cases a with
    | none=>simp [renA] at e
    | some y =>
     obtain ⟨y1,y2⟩:=y;simp only [renA,AVal.slice.injEq,fq,pb] at e;obtain ⟨V,X',W⟩:=J _ j y1 y2 _ _ rfl;obtain ⟨g3,-⟩:=(D _ j).2 y1 y2 _ _ rfl;rw [← e.1.1];exact ⟨hm.up _ g3,_,hm.at' _ _ V W⟩
   ·rw [e w,h2]; simp [AVal.ren]
section
variable {H:List AObj} {b:Nat}
section
attribute [-simp] getElem?_pos getElem?_neg List.all_eq_true
attribute [local simp] qZ qS nltT nltF iltT iltF ileT nleT di
theorem p581 {L:List ChU} {la:Option (Nat × Nat)} {lc:Option Nat} (U:Row H 3 ChU.cells L la) (h0:L≠[]) (G:L.length≤16) (V:∀ c ∈ L,c.fine H) (hb:b≤H.length) :
  ((L.foldl (fun S c=>addK S c.key) []).length < L.length∧∀ w,xCall T 581 [.slice la L.length lc] ⟨H,b,w⟩=some (.tuple [.slice none 0 (some 0),.int .i64 12],⟨H,b,w⟩)) ∨
  (¬ (L.foldl (fun S c=>addK S c.key) []).length < L.length∧∃ H' A x,Pre H H'∧FRow H.length 5 RV.cells A H' x∧A.map Prod.fst=L.map ChU.toR∧(∀ p ∈ A,p.new H.length H') ∧
   ∀ w,xCall T 581 [.slice la L.length lc] ⟨H,b,w⟩=some (.tuple [x,.int .i64 0],⟨H',b,w⟩)):=by
 have W:0 < L.length:=kg.2 h0;obtain ⟨P',X,x',w',i1,C,N,D,O,i6,j⟩:=l581 (b:=b) (lc:=lc) U G V hb rfl L.length 0 H.length (H++[setM []]) [] [] (.slice none 0 (some 0)) (by omega) rfl (fun k o Q=>by rw [ag (ah Q)]; exact Q) (gc H _) (.inl ⟨rfl,rfl⟩) (fun p hp=>by cases hp);rw [ff] at C D;rw [dw] at N O;have J:H.length≤w':=i6 (aj _);generalize L.foldl (fun S c=>addK S c.key) []=S at *
 have hA:X≠[]:=fun e=>by rw [e] at D;have:=congrArg List.length D;rw [a7] at this;simp at this; omega
 have q:((ksE 0 S).length)=S.length:=ksE_len 0 S;unfold setM at C;simp only [bf] at j;by_cases c:S.length < L.length
 ·refine .inl ⟨c,fun w=>?_⟩;have d:setM [] = .map [] 0:=rfl;rw [d] at j;simp (disch:=omega) [bg t581,code581,h0,j,C,q,c]
 ·obtain ⟨H',A,x,j1,j2,j3,j4,j5⟩:=rows_fin (b:=b) (fun y=>.tuple [y,.int .i64 0]) (fun y=>by simp [AVal.ids,AVal.idsL]) (fun f y=>by simp [AVal.ren,AVal.renL]) (fun n p o k c=>by simp [AVal.under,AVal.unders]) hA N O i1 J;refine .inr ⟨c,H',A,x,j1,j2,by rw [j3,D],j4,fun w=>?_⟩;have d:setM [] = .map [] 0:=rfl;rw [d] at j;simp (disch:=omega) [bg t581,code581,-dj,h0,j,C,q,c,j5]
end
end
end Go.Abs.AbsBlb

namespace Go.Abs.AbsBlb
theorem vu {F F':Fl} {i:Nat} (h1:F'.z=F.z) (h2:∀ j,j < F.z→F'.b[i*F.z+j]? = F.b[i*F.z+j]?) (d:F'.w[i]? = F.w[i]?):F'.look i=F.look i:=by
  unfold Fl.look
  have:F'.sec i=F.sec i:=by
    refine jj fun j=>?_
    by_cases c:j < F.z
    · rw [Fl.sec_get (by rw [h1]; exact c),Fl.sec_get c,h1,h2 j c]
    · unfold Fl.sec
      rw [eo,eo,if_neg (by rw [h1]; exact c),if_neg c]
  rw [this,d]
theorem wg {l l':Bs} {n m:Nat} (h:l'.take n=l.take n) (hm:m≤n):l'.take m=l.take m:=by have:=congrArg (List.take m) h;rw [List.take_take,List.take_take,Nat.min_eq_left hm] at this;exact this
theorem ph {l l':Bs} {n a k:Nat} (h:l'.take n=l.take n) (hm:a+k≤n):(l'.drop a).take k=(l.drop a).take k:=by
  have h1:=wg h hm;have e:∀ l:Bs,(l.drop a).take k=(l.take (a+k)).drop a:=fun l=>by rw [List.drop_take]; congr 1; omega
  rw [e,e,h1]
theorem qj {l l':Bs} {n j:Nat} (h:l'.take n=l.take n) (d:j < n):l'[j]? = l[j]?:=by
  have:(l'.take n)[j]? = (l.take n)[j]?:=by rw [h]
  rwa [eo,eo,if_pos d,if_pos d] at this
theorem look_head {l l':Bs} {er:Nat} (h:l'.take 12=l.take 12) (d:(lookB l er).st=2):lookB l' er=lookB l er:=by
  unfold lookB at d;have hb:¬ blankB l=true:=fun e=>by rw [if_pos e] at d; cases d
  rw [if_neg hb] at d;by_cases hc:parseE l=0∧l[8]? = some 0∧l[9]? = some 255
  · have p:¬ blankB l'=true:=fun e=>by
      have q:l'[8]? = some 0:=by rw [qj h (by decide)]; exact hc.2.1
      have:=qu e (ah q);rw [q] at this;cases this
    have y:parseE l'=parseE l:=by unfold parseE;rw [wg h (m:=2) (by decide),wg h (m:=6) (by decide),ph h (a:=6) (k:=2) (by decide)]
    unfold lookB;rw [if_neg hb,if_neg p,y,qj h (j:=8) (by decide),qj h (j:=9) (by decide),ph h (a:=2) (k:=4) (by decide)]
  · rw [if_neg hc] at d; cases d
theorem look_used {F F':Fl} {i:Nat} (h1:F'.z=F.z) (p:12≤F.z) (h2:∀ j,j < 12→F'.b[i*F.z+j]? = F.b[i*F.z+j]?) (e:F'.w[i]? = F.w[i]?) (d:(F.look i).st=2):F'.look i=F.look i:=by
  unfold Fl.look at d ⊢;rw [e];refine look_head (jj fun j=>?_) d;rw [eo,eo];split
  · rw [Fl.sec_get (by rw [h1]; omega),Fl.sec_get (by omega),h1,h2 j (by omega)]
  · rfl
theorem look_er (F:Fl) (i:Nat):(F.look i).er=((F.w[i]?).getD 0:Nat):=by
  unfold Fl.look lookB;repeat' split
  all_goals rfl
theorem uy {i h z j:Nat} (d:i≠h) (e:j < z):i*z+j < h*z∨h*z+z≤i*z+j:=by
  rcases Nat.lt_or_gt_of_ne d with c | c
  · left
    have:(i+1)*z≤h*z:=ge z c;rw [fm,Nat.one_mul] at this;omega
  · right
    have:(h+1)*z≤i*z:=ge z c;rw [fm,Nat.one_mul] at this;omega
theorem sec_in {i n z:Nat} (hi:i < n):i*z+z≤n*z:=by have:(i+1)*z≤n*z:=ge z hi;rw [fm,Nat.one_mul] at this;exact this
def Ent.size (e:Ent):Nat:=16+e.1.length+e.2.1.blob.length
def secSum (i:Nat) (ix:List Ent):Nat:=(ix.map fun e=>if e.2.1.sec=i then Ent.size e else 0).sum
theorem zaq (g:Ent→Nat) (f:Ent→Ent) {x:Ent}:∀ (l:List Ent) (i:Nat),l[i]? = some x→((l.modify i f).map g).sum+g x=(l.map g).sum+g (f x)
  | [],i,h=>by simp at h
  | a :: l,0,h=>by simp only [List.getElem?_cons_zero,fq] at h;subst h;simp [List.modify];omega
  | a :: l,i+1,h=>by have d:=zaq g f l i (by simpa using h);rw [List.modify_succ_cons,bi,bi,dz,dz];omega
theorem sum_erase (g:Ent→Nat):∀ (l:List Ent) (i:Nat),((l.eraseIdx i).map g).sum≤(l.map g).sum
  | [],i=>by simp
  | a :: l,0=>by simp
  | a :: l,i+1=>by have d:=sum_erase g l i;rw [List.eraseIdx_cons_succ,bi,bi,dz,dz];omega
theorem mr {k:Bs}:∀ {l:List Ent} {x:Nat × PlU},findK k l=some x→∃ e,l[x.1]? = some e∧e.1=k∧e.2.1=x.2
  | [],x,h=>by cases h
  | a :: l,x,h=>by
    unfold findK at h;by_cases c:a.1=k
    · rw [if_pos c] at h
      cases h;exact ⟨a,rfl,c,rfl⟩
    · rw [if_neg c] at h
      rw [ae] at h;obtain ⟨y,h1,rfl⟩:=h;obtain ⟨e,h2,d,j⟩:=mr h1;exact ⟨e,by simpa using h2,d,j⟩
theorem oc {k:Bs}:∀ {l:List Ent},findK k l=none→∀ e ∈ l,e.1≠k
  | [],_,e,d=>by cases d
  | a :: l,h,e,d=>by
    unfold findK at h;by_cases c:a.1=k
    · rw [if_pos c] at h; cases h
    · rw [if_neg c,Option.map_eq_none_iff] at h
      rcases cj.1 d with rfl | d
      · exact c
      · exact oc h e d
structure IxOK (ix:List Ent) (clock:Nat):Prop where
  k:(ix.map (·.1)).Nodup
  t:(ix.map (·.2.2)).Nodup
  c:∀ e ∈ ix,e.2.2 < clock
structure IxUp (ix ix':List Ent) (ks:List Bs) (sec tot:Nat) (blobs:List Bs):Prop where
  m:∀ e ∈ ix',(e ∈ ix∧e.1 ∉ ks)∨(e.1 ∈ ks∧e.2.1.sec=sec∧e.2.1.blob ∈ blobs)
  s:∀ i,secSum i ix'≤secSum i ix+if i=sec then tot else 0
theorem od {ix:List Ent} {i j:Nat} {x y:Ent} (h:(ix.map (·.1)).Nodup) (hx:ix[i]? = some x) (d:ix[j]? = some y) (e:x.1=y.1):i=j:=by
  have h1:(ix.map (·.1))[i]? = some x.1:=by rw [bp,hx]; rfl
  have h2:(ix.map (·.1))[j]? = some x.1:=by rw [bp,d,e]; rfl
  have p:=ah h1;exact (List.getElem?_inj p h).1 (h1.trans h2.symm)
theorem pe {β:Type} (g:Ent→β) (f:Ent→Ent) {x:Ent} (h:g (f x)=g x):∀ (l:List Ent) (i:Nat),l[i]? = some x→(l.modify i f).map g=l.map g
  | [],i,hx=>by simp at hx
  | a :: l,0,hx=>by simp only [List.getElem?_cons_zero,fq] at hx;subst hx;simp [List.modify,h]
  | a :: l,i+1,hx=>by rw [List.modify_succ_cons,bi,bi,pe g f h l i (by simpa using hx)]
theorem put_ok {K:StU} {k:Bs} {p:PlU} (h:IxOK K.ix K.clock):IxOK (K.put k p).ix (K.put k p).clock∧IxUp K.ix (K.put k p).ix [k] p.sec (16+k.length+p.blob.length) [p.blob]:=by
  unfold StU.put;cases N:findK k K.ix with
  | some x =>
    obtain ⟨e,h1,h2,W⟩:=mr N;simp only;have U:=pe (fun e:Ent=>e.1) (fun e=>(k,p,e.2.2)) (x:=e) h2.symm K.ix x.1 h1;have V:=pe (fun e:Ent=>e.2.2) (fun e=>(k,p,e.2.2)) (x:=e) rfl K.ix x.1 h1
    have D:∀ q ∈ K.ix.modify x.1 (fun e=>(k,p,e.2.2)),(q ∈ K.ix∧q.1≠k)∨q=(k,p,e.2.2):=fun q d=>by
      obtain ⟨j,C⟩:=ga.1 d;rw [List.getElem?_modify] at C;split at C
      · rename_i G
        subst G;rw [h1] at C;right;exact (ce C).symm
      · rename_i G
        have C:K.ix[j]? = some q:=by
          cases O:K.ix[j]? with
          | none=>rw [O] at C; cases C
          | some y=>rw [O] at C; exact C
        refine .inl ⟨br C,fun J=>G ?_⟩;exact od h.k h1 C (h2.trans J.symm)
    refine ⟨⟨by rw [U]; exact h.k,by rw [V]; exact h.t,fun q d=>?_⟩,⟨fun q d=>?_,fun i=>?_⟩⟩
    · rcases D q d with ⟨A,-⟩ | rfl
      · exact h.c q A
      · exact h.c e (br h1)
    · rcases D q d with ⟨A,J⟩ | rfl
      · exact .inl ⟨A,by simpa using J⟩
      · exact .inr ⟨by simp,rfl,by simp⟩
    · have this:secSum i (K.ix.modify x.1 fun e=>(k,p,e.2.2))+(if e.2.1.sec=i then Ent.size e else 0)=secSum i K.ix+(if p.sec=i then 16+k.length+p.blob.length else 0):=zaq (fun e=>if e.2.1.sec=i then Ent.size e else 0) (fun e=>(k,p,e.2.2)) K.ix x.1 h1
      by_cases c:p.sec=i
      · rw [if_pos c] at this
        rw [if_pos c.symm];omega
      · rw [if_neg c] at this
        rw [if_neg (fun e=>c e.symm)];omega
  | none =>
    have Q:=oc N;simp only;refine ⟨⟨?_,?_,fun q d=>?_⟩,fun q d=>?_,fun i=>?_⟩
    · rw [ku,z7]
      refine ⟨h.k,by simp,fun a ha c hc=>?_⟩;obtain ⟨e,L,rfl⟩:=bt.1 ha;simp at hc;subst hc;exact Q e L
    · rw [ku,z7]
      refine ⟨h.t,by simp,fun a ha c hc=>?_⟩;obtain ⟨e,L,rfl⟩:=bt.1 ha;simp at hc;subst hc;have:=h.c e L;omega
    · rcases bz.1 d with A | A
      · have:=h.c q A; omega
      · rw [bk.1 A]; show K.clock < _; omega
    · rcases bz.1 d with A | A
      · exact .inl ⟨A,by simpa using Q q A⟩
      · rw [bk.1 A]; exact .inr ⟨by simp,rfl,by simp⟩
    · unfold secSum
      rw [ku,List.sum_append];simp only [Ent.size,bi,List.map_nil,dz,List.sum_nil];by_cases c:p.sec=i
      · rw [if_pos c,if_pos c.symm]; omega
      · rw [if_neg c,if_neg (fun e=>c e.symm)]; omega
theorem del_ok {K:StU} {k:Bs} {sec tot:Nat} (h:IxOK K.ix K.clock):IxOK (K.del k).ix (K.del k).clock∧IxUp K.ix (K.del k).ix [k] sec tot []:=by
  unfold StU.del;cases A:findK k K.ix with
  | some x =>
    obtain ⟨e,h1,h2,J⟩:=mr A;simp only;have d:=List.eraseIdx_sublist K.ix x.1;refine ⟨⟨(d.map _).nodup h.k,(d.map _).nodup h.t,fun C p=>h.c C (d.subset p)⟩,fun C p=>.inl ⟨d.subset p,?_⟩,fun i=>?_⟩
    · intro y
      rw [bk] at y;obtain ⟨j,q⟩:=ga.1 p;rw [List.getElem?_eraseIdx] at q;split at q
      · have:=od h.k h1 q (h2.trans y.symm); omega
      · have:=od h.k h1 q (h2.trans y.symm); omega
    · have this:secSum i (K.ix.eraseIdx x.1)≤secSum i K.ix:=sum_erase (fun e=>if e.2.1.sec=i then Ent.size e else 0) K.ix x.1
      show secSum i (K.ix.eraseIdx x.1)≤_
      split <;> omega
  | none =>
    have G:=oc A
    exact ⟨h,⟨fun e D=>.inl ⟨D,by simpa using G e D⟩,fun i=>by
      show secSum i K.ix≤_
      split <;> omega⟩⟩
theorem IxUp.trans {a b c:List Ent} {p q:List Bs} {sec y A:Nat} {b1 b2:List Bs} (h:IxUp a b p sec y b1) (k:IxUp b c q sec A b2):IxUp a c (p++q) sec (y+A) (b1++b2) :=
  ⟨fun e C=>by
    rcases k.m e C with ⟨h1,h2⟩ | ⟨h1,h2,D⟩
    · rcases h.m e h1 with ⟨d,j⟩ | ⟨d,j,G⟩
      · exact .inl ⟨d,fun J=>(bz.1 J).elim j h2⟩
      · exact .inr ⟨dr _ d,j,dr _ G⟩
    · exact .inr ⟨gb _ h1,h2,gb _ D⟩,
   fun i=>by
    have h1:=h.s i;have h2:=k.s i;split at h1 <;> rename_i c
    · rw [if_pos c] at h2 ⊢; omega
    · rw [if_neg c] at h2 ⊢; omega⟩
theorem apply_ok {K:StU} {sec at_:Nat} {r:RecU} (h:IxOK K.ix K.clock):IxOK (K.apply sec at_ r).ix (K.apply sec at_ r).clock∧IxUp K.ix (K.apply sec at_ r).ix [r.key] sec r.size [r.blob]:=by
  unfold StU.apply;split
  · obtain ⟨h1,h2⟩:=del_ok (K:=K) (k:=r.key) (sec:=sec) (tot:=r.size) h
    refine ⟨h1,⟨fun e j=>?_,h2.s⟩⟩;rcases h2.m e j with d | ⟨_,_,d⟩
    · exact .inl d
    · cases d
  · exact put_ok (p:=⟨sec,at_,r.blob⟩) h
theorem tf {hd:Nat}:∀ {A:List FV} {K:StU},IxOK K.ix K.clock→IxOK (applyAll hd A K).ix (applyAll hd A K).clock∧IxUp K.ix (applyAll hd A K).ix (A.map fun x=>x.2.1.key) hd (sizes (A.map fun x=>x.2.1)) (A.map fun x=>x.2.1.blob)
  | [],K,h=>⟨h,fun e d=>.inl ⟨d,by simp⟩,fun i=>by
    show secSum i K.ix≤_
    split <;> omega⟩
  | x :: A,K,h=>by
    obtain ⟨h1,h2⟩:=apply_ok (sec:=hd) (at_:=x.1) (r:=x.2.1) h;obtain ⟨j,p⟩:=tf (hd:=hd) (A:=A) h1;refine ⟨j,?_⟩;have:=h2.trans p;have e:sizes ((x :: A).map fun x=>x.2.1)=x.2.1.size+sizes (A.map fun x=>x.2.1):=by unfold sizes; rw [bi,bi,dz]
    rw [e];exact this
theorem tg {hd:Nat}:∀ (A:List FV) (K:StU),(applyAll hd A K).secs=K.secs∧(applyAll hd A K).head=K.head∧(applyAll hd A K).at_=K.at_∧(applyAll hd A K).txn=K.txn∧(applyAll hd A K).seq=K.seq∧(applyAll hd A K).down=K.down
  | [],K=>⟨rfl,rfl,rfl,rfl,rfl,rfl⟩
  | x :: A,K=>by obtain ⟨a1,a2,a3,a4,a5,d⟩:=apply_eq K hd x.1 x.2.1;obtain ⟨b1,b2,b3,b4,e,j⟩:=tg (hd:=hd) A (K.apply hd x.1 x.2.1);exact ⟨b1.trans a1,b2.trans a2,b3.trans a3,b4.trans a4,e.trans a5,j.trans d⟩
theorem th {t:Nat}:∀ {L:List RV} {a:Nat},(founds t L a).map (fun x=>x.2.1.key)=L.map (fun p=>p.1.key)∧sizes ((founds t L a).map fun x=>x.2.1)=sizes (L.map Prod.fst)∧(founds t L a).map (fun x=>x.2.1.blob)=L.map (fun p=>p.1.blob)
  | [],a=>⟨rfl,rfl,rfl⟩
  | p :: L,a=>by obtain ⟨h1,h2,d⟩:=th (t:=t) (L:=L) (a:=a+p.1.size);unfold founds;refine ⟨by rw [bi,bi,h1]; rfl,?_,by rw [bi,bi,d]; rfl⟩;unfold sizes at h2 ⊢;rw [bi,bi,dz,bi,bi,dz,h2];rfl
end Go.Abs.AbsBlb

namespace Go.Abs.AbsBlb
structure Inv (kl:List Bs) (F:Fl) (K:StU):Prop where
 gz:12≤F.z
 bl:F.b.length=F.n*F.z
 wl:F.w.length=F.n
 ln:K.secs.length=F.n
 lk:∀ i,i < F.n→K.secs[i]? = some (F.look i)
 dn:K.down=false
 hd:K.head = -1∨∃ h:Nat,K.head=h∧h < F.n∧(F.look h).st=2∧12≤K.at_∧K.at_≤F.z∧K.txn≤K.at_∧∀ j,K.at_≤j→j < F.z→F.b[h*F.z+j]? = some 255
 ix:IxOK K.ix K.clock
 en:∀ e ∈ K.ix,e.2.1.sec < F.n∧(F.look e.2.1.sec).st=2∧e.1 ∈ kl∧e.2.1.blob.length≤4096
 sz:∀ i:Nat,secSum i K.ix≠0→secSum i K.ix+28≤if K.head=i then K.at_ else F.z
theorem sum_zero {l:List Nat} (h:∀ x ∈ l,x=0):l.sum=0:=by
 induction l with
 | nil=>rfl
 | cons a l ih =>
  rw [dz,h a (a8 ..),ih fun x hx=>h x (bd _ hx)]
theorem sum_ge {l:List Nat} {x:Nat} (h:x ∈ l):x≤l.sum:=by
 induction l with
 | nil=>cases h
 | cons a l ih =>
  rw [dz];rcases cj.1 h with rfl | h
  ·omega
  ·have:=ih h; omega
theorem secSum_zero {i:Nat} {ix:List Ent} (h:∀ e ∈ ix,e.2.1.sec≠i):secSum i ix=0:=sum_zero fun x hx=>by obtain ⟨e,d,rfl⟩:=bt.1 hx;exact if_neg (h e d)
theorem zao {i:Nat} {ix:List Ent} {e:Ent} (d:e ∈ ix) (hs:e.2.1.sec=i):Ent.size e≤secSum i ix:=by
 have:(if e.2.1.sec=i then Ent.size e else 0) ∈ ix.map fun e=>if e.2.1.sec=i then Ent.size e else 0:=bt.2 ⟨e,d,rfl⟩
 rw [if_pos hs] at this;exact sum_ge this
theorem laid_len {F:Fl} {a:Nat} {r:RecU} (h:a+r.size≤F.b.length):(F.laid a r).b.length=F.b.length:=by have e:=zab r;have d:(spliceB F.b a (recB r)).length=F.b.length:=gw (by omega);show (spliceB (spliceB F.b a (recB r)) _ [0]).length=_;rw [gw (by rw [d]; show _+1≤_; omega),d]
theorem wroteF_get {F:Fl} {hd a t j:Nat} {l:List RecU} (h:hd*F.z+a+sizes l+16≤F.b.length) (d:j < hd*F.z+a∨hd*F.z+a+sizes l+16≤j) :
  (wroteF F hd a t l).b[j]? = F.b[j]?∧(wroteF F hd a t l).b.length=F.b.length:=by
 obtain ⟨h1,h2⟩:=vw (hd*F.z) t (j:=j) l F a (by omega) (by omega);have hs:(comR t l.length).size=16:=rfl;unfold wroteF;refine ⟨(zat (by rw [h2,hs]; omega) (by rw [hs]; omega)).trans h1,(laid_len (by rw [h2,hs]; omega)).trans h2⟩
theorem wroteF_eq (F:Fl) (hd a t:Nat) (l:List RecU):(wroteF F hd a t l).n=F.n∧(wroteF F hd a t l).z=F.z∧(wroteF F hd a t l).lim=F.lim∧(wroteF F hd a t l).w=F.w:=xq (hd*F.z) t l F a
theorem write_inv {kl:List Bs} {F:Fl} {K:StU} (h:Inv kl F K) {hd:Nat} (X:K.head=hd) {L:List RV} (hL:∀ p ∈ L,p.1.key ∈ kl∧p.1.blob.length≤4096) (O:K.at_+sizes (L.map Prod.fst)+16≤F.z) :
  Inv kl (wroteF F hd K.at_ (K.txn+1) (L.map Prod.fst)) (wroteK K hd L)∧(wroteK K hd L).head=hd∧(∀ e ∈ (wroteK K hd L).ix,(e ∈ K.ix∧e.1 ∉ L.map fun p=>p.1.key)∨((e.1 ∈ L.map fun p=>p.1.key)∧e.2.1.sec=hd))∧(∀ i,i < F.n→(wroteF F hd K.at_ (K.txn+1) (L.map Prod.fst)).look i=F.look i):=by
 obtain ⟨N,J,f3,f4⟩:=wroteF_eq F hd K.at_ (K.txn+1) (L.map Prod.fst);rcases h.hd with e | ⟨y,e,Q,hu,al,an,ao,a0⟩
 ·omega
 obtain rfl:y=hd:=by omega
 have ax:=sec_in (z:=F.z) Q;have aa:=h.bl;have C:=fun j W=>wroteF_get (F:=F) (hd:=y) (a:=K.at_) (t:=K.txn+1) (j:=j) (l:=L.map Prod.fst) (by omega) W
 have U:=(C 0 (by omega)).2;have hz:=h.gz
 have d:∀ i,i < F.n→(wroteF F y K.at_ (K.txn+1) (L.map Prod.fst)).look i=F.look i:=fun i hi=>by
  by_cases c:i=y
  ·subst c;exact look_used J hz (fun j W=>(C _ (by omega)).1) (by rw [f4]) hu
  ·refine vu J (fun j W=>(C _ ?_).1) (by rw [f4]);have:=uy c W;omega
 obtain ⟨k1,k2,k3⟩:=th (t:=K.txn+1) (L:=L) (a:=K.at_);have ac:IxOK ({ K with txn:=K.txn+1,at_:=K.at_+sizes (L.map Prod.fst)+16 }:StU).ix ({ K with txn:=K.txn+1,at_:=K.at_+sizes (L.map Prod.fst)+16 }:StU).clock:=h.ix;obtain ⟨x1,x2⟩:=tf (hd:=y) (A:=founds (K.txn+1) L K.at_) ac;obtain ⟨a1,a2,a3,a4,a5,a6⟩:=tg (hd:=y) (founds (K.txn+1) L K.at_) { K with txn:=K.txn+1,at_:=K.at_+sizes (L.map Prod.fst)+16 };rw [k1,k2,k3] at x2;have G:∀ e ∈ (wroteK K y L).ix,(e ∈ K.ix∧e.1 ∉ L.map fun p=>p.1.key)∨((e.1 ∈ L.map fun p=>p.1.key)∧e.2.1.sec=y∧e.2.1.blob ∈ L.map fun p=>p.1.blob):=x2.m;refine ⟨⟨by rw [J]; exact hz,by rw [U,N,J]; exact aa,by rw [f4,N]; exact h.wl,?_,fun i hi=>?_,?_,.inr ⟨y,a2.trans X,by rw [N]; exact Q,by rw [d y Q]; exact hu,?_,?_,?_,fun j D V=>?_⟩,x1,fun e he=>?_,fun i hi=>?_⟩,a2.trans X,fun e he=>(G e he).imp id fun q=>⟨q.1,q.2.1⟩,d⟩
 ·show (wroteK K y L).secs.length=_
  unfold wroteK; rw [a1,N]; exact h.ln
 ·rw [N] at hi;unfold wroteK; rw [a1,d i hi]; exact h.lk i hi
 ·unfold wroteK; rw [a6]; exact h.dn
 ·unfold wroteK; rw [a3]; show 12≤K.at_+_+16; omega
 ·unfold wroteK; rw [a3,J]; exact O
 ·unfold wroteK; rw [a3,a4]; show K.txn+1≤K.at_+_+16; omega
 ·unfold wroteK at D;rw [a3] at D;rw [J] at V ⊢;have D:K.at_+sizes (L.map Prod.fst)+16≤j:=D;rw [(C _ (by omega)).1];exact a0 j (by omega) V
 ·rw [N];rcases G e he with ⟨q1,q2⟩ | ⟨q1,q2,q3⟩
  ·obtain ⟨b1,b2,b3,b4⟩:=h.en e q1;exact ⟨b1,by rw [d _ b1]; exact b2,b3,b4⟩
  ·obtain ⟨p,hp,e1⟩:=bt.1 q1;obtain ⟨p',ad,e2⟩:=bt.1 q3;refine ⟨by rw [q2]; exact Q,by rw [q2,d y Q]; exact hu,by rw [← e1]; exact (hL p hp).1,by rw [← e2]; exact (hL p' ad).2⟩
 ·have hs:=x2.s i;have hs:secSum i (wroteK K y L).ix≤secSum i K.ix+if i=y then sizes (L.map Prod.fst) else 0:=hs
  have hold:=h.sz i;have e1:(wroteK K y L).head=K.head:=a2;have e2:(wroteK K y L).at_=K.at_+sizes (L.map Prod.fst)+16:=a3;rw [e1,e2,J];by_cases c:i=y
  ·subst c;rw [if_pos rfl] at hs;rw [if_pos X] at hold ⊢;by_cases c0:secSum i K.ix=0
   ·omega
   ·have:=hold c0;omega
  ·rw [if_neg c] at hs;have hc:¬ K.head=(i:Int):=by omega
   rw [if_neg hc] at hold ⊢;have:=hold (by omega);omega
theorem prog1_get {F:Fl} {a j:Nat} {c:UInt8} (h:a < F.b.length) (d:j≠a):(F.prog a [c]).b[j]? = F.b[j]?:=by
 show (spliceB F.b a [c])[j]? = _
 rw [lg (by show a+1≤_; omega)];split
 ·rfl
 ·rw [if_neg (by show ¬ _ < a+1; omega)]
theorem yr {l:Bs} {er:Nat} (h:∀ j,j < l.length→l[j]? = some 255):lookB l er=⟨0,0,er⟩:=by unfold lookB;rw [if_pos (blank_of h)]
theorem drop_inv {kl:List Bs} {F:Fl} {K:StU} (h:Inv kl F K) {i x:Nat} (hx:F.w[i]? = some x) (hh:K.head≠i) (L:∀ e ∈ K.ix,e.2.1.sec≠i) :
  Inv kl (F.dropped i x) { K with secs:=K.secs.set i (dropS F x) }:=by
 have hi:i < F.n:=by have:=ah hx; rw [h.wl] at this; exact this
 have a0:=sec_in (z:=F.z) hi;have N:=h.bl;have hz:=h.gz;have d:(F.prog (i*F.z+9) [0]).b.length=F.b.length:=gw (by show _+1≤_; omega);have A:(F.dropped i x).n=F.n∧(F.dropped i x).z=F.z∧(F.dropped i x).lim=F.lim:=by unfold Fl.dropped; split <;> exact ⟨rfl,rfl,rfl⟩
 obtain ⟨A,p,e3⟩:=A
 have O:(F.dropped i x).b.length=F.b.length:=by
  unfold Fl.dropped;split
  ·show (eraseB _ _).length=_
   unfold eraseB;rw [gw (by rw [bq,d]; show i*F.z+F.z≤_; omega),d]
  ·exact d
 have Q:(F.dropped i x).w.length=F.n:=by
  unfold Fl.dropped;split
  ·show (F.w.set _ _).length=_
   rw [az]; exact h.wl
  ·exact h.wl
 have C:∀ j,(j < i*F.z∨i*F.z+F.z≤j)→(F.dropped i x).b[j]? = F.b[j]?:=fun j D=>by
  unfold Fl.dropped;have hp:(F.prog (i*F.z+9) [0]).b[j]? = F.b[j]?:=prog1_get (by omega) (by omega);split
  ·rw [uz (by rw [d]; show i*F.z+F.z≤_; omega),if_neg (by show ¬ (i*F.z≤j∧j < i*F.z+F.z); omega)];exact hp
  ·exact hp
 have U:∀ k,k≠i→(F.dropped i x).w[k]? = F.w[k]?:=fun k q=>by
  unfold Fl.dropped;split
  ·show (F.w.set i _)[k]? = _
   rw [aq (fun e=>q e.symm)]
  ·rfl
 have G:∀ k,k≠i→(F.dropped i x).look k=F.look k:=fun k q=>vu p (fun j D=>C _ (uy q D)) (U k q)
 have V:(F.dropped i x).look i=dropS F x:=by
  unfold dropS;by_cases c:x < F.lim
  ·have hd:F.dropped i x=(F.prog (i*F.z+9) [0]).erase i:=if_pos c
   have hw:(F.dropped i x).w[i]? = some (x+1):=by rw [hd];show (F.w.set i ((F.w[i]?).getD 0+1))[i]? = _;rw [hx];exact bj (ah hx)
   unfold Fl.look;rw [if_pos c,hw,ed,yr]
   ·rfl
   ·intro j D
    have D:j < F.z:=by unfold Fl.sec at D;rw [db,p] at D;omega
    rw [Fl.sec_get (by rw [p]; exact D),p,hd,uz (by rw [d]; show i*F.z+F.z≤_; omega),if_pos (by show i*F.z≤_∧_ < i*F.z+F.z; omega)]
  ·have hd:F.dropped i x=F.prog (i*F.z+9) [0]:=if_neg c;have hw:(F.dropped i x).w[i]? = some x:=by rw [hd]; exact hx
   have W:((F.dropped i x).sec i)[9]? = some 0:=by rw [Fl.sec_get (by rw [p]; omega),p,hd];show (spliceB F.b (i*F.z+9) [0])[i*F.z+9]? = _;rw [lg (by show _+1≤_; omega),if_neg (by omega),if_pos (by show _ < _+1; omega),qh]; rfl
   unfold Fl.look;rw [if_neg c,hw,ed];unfold lookB
   have g1:¬ blankB ((F.dropped i x).sec i)=true:=fun e=>by have:=qu e (ah W);rw [W] at this; cases this
   have g2:¬ (parseE ((F.dropped i x).sec i)=0∧((F.dropped i x).sec i)[8]? = some 0∧((F.dropped i x).sec i)[9]? = some 255):=fun e=>by rw [W] at e;exact absurd e.2.2 (by decide)
   rw [if_neg g1,if_neg g2]
 refine ⟨by rw [p]; exact hz,by rw [O,A,p]; exact N,by rw [Q,A],by rw [A]; show (K.secs.set _ _).length=_; rw [az]; exact h.ln,fun k q=>?_,h.dn,?_,h.ix,fun e he=>?_,fun k q=>?_⟩
 ·rw [A] at q;show (K.secs.set i _)[k]? = _;by_cases c:k=i
  ·subst c;rw [V];exact bj (by rw [h.ln]; exact q)
  ·rw [aq (fun e=>c e.symm),G k c];exact h.lk k q
 ·rcases h.hd with e | ⟨y,b1,b2,b3,b4,b5,b6,b7⟩
  ·exact .inl e
  ·have hy:y≠i:=fun e=>hh (by rw [b1,e])
   refine .inr ⟨y,b1,by rw [A]; exact b2,by rw [G y hy]; exact b3,b4,by rw [p]; exact b5,b6,fun j X J=>?_⟩;rw [p] at J ⊢;rw [C _ (uy hy J)];exact b7 j X J
 ·obtain ⟨b1,b2,b3,b4⟩:=h.en e he;exact ⟨by rw [A]; exact b1,by rw [G _ (L e he)]; exact b2,b3,b4⟩
 ·rw [p];exact h.sz k q
theorem we {a b:Bs} {n:Nat} (h:a.length=n):(a++b).take n=a:=by rw [← h]; simp
theorem drop_cat {a b:Bs} {n:Nat} (h:a.length=n):(a++b).drop n=b:=by rw [← h]; simp
theorem lookB_open {l:Bs} {seq er:Nat} (h:l.take 9=headB seq++[0]) (q:l[9]? = some 255) (hs:seq < 4294967296):lookB l er=⟨2,seq,er⟩:=by
 have h':l.take 9=(headB seq++[0]).take 9:=by rw [dg (l:=headB seq++[0]) (by rw [au,jo]; decide)]; exact h
 have d:l[8]? = some 0:=by rw [qj h' (j:=8) (by decide),aw (by rw [jo]; decide),jo]; rfl
 have hb:¬ blankB l=true:=fun e=>by have:=qu e (ah d);rw [d] at this; cases this
 have p:=xt seq
 have y:l.take 6=headA seq:=by rw [wg h' (m:=6) (by decide)];unfold headB;rw [ba];exact we p
 have A:l.take 2=[67,66]:=by rw [wg h' (m:=2) (by decide)];unfold headB headA;rw [ba,ba];exact we rfl
 have C:(l.drop 6).take 2=putB (nat16 (headA seq)) 2:=by rw [ph h' (a:=6) (k:=2) (by decide)];unfold headB;rw [ba,drop_cat p];exact we (md _ _)
 have D:(l.drop 2).take 4=putB seq 4:=by rw [ph h' (a:=2) (k:=4) (by decide)];unfold headB headA;rw [ba,ba,drop_cat (a:=[67,66]) (n:=2) rfl];exact we (md _ _)
 have G:parseE l=0:=by unfold parseE;rw [if_pos A,C,y,zay,if_pos (Nat.mod_eq_of_lt (tj _).2)]
 unfold lookB;rw [if_neg hb,if_pos ⟨G,d,q⟩,D,zay,Nat.mod_eq_of_lt hs]
theorem qi (m:Sec→Bool) (k:Sec→Int) (L:List Sec):∀ i,(least m k L i).2=true→∃ x,L[(least m k L i).1]? = some x∧m x=true
 | 0,h=>by simp [least] at h
 | i+1,h=>by
  cases hx:L[i]? with
  | none =>
   have e:least m k L (i+1)=least m k L i:=by simp only [least,hx]
   rw [e] at h ⊢;exact qi m k L i h
  | some x =>
   by_cases c:(m x && (!(least m k L i).2 || (L[(least m k L i).1]?).any fun y=>decide (k x < k y)))=true
   ·have e:least m k L (i+1)=(i,true):=by simp only [least,hx]; rw [if_pos c]
    rw [e];refine ⟨x,hx,?_⟩;simp only [bc] at c;exact c.1
   ·have e:least m k L (i+1)=least m k L i:=by simp only [least,hx]; rw [if_neg c]
    rw [e] at h ⊢;exact qi m k L i h
theorem opened_get {F:Fl} {i s j:Nat} (hi:i < F.n) (C:F.b.length=F.n*F.z) (L:12≤F.z) :
  (F.opened i s).b.length=F.b.length∧((j < i*F.z∨i*F.z+F.z≤j)→(F.opened i s).b[j]? = F.b[j]?)∧(9≤j→j < F.z→(F.opened i s).b[i*F.z+j]? = some 255)∧(j < 9→(F.opened i s).b[i*F.z+j]? = (headB s++[0])[j]?):=by
 have D:=sec_in (z:=F.z) hi;obtain ⟨c1,c2,c3⟩:=qv F i
 have q:(F.clear i).b.length=F.b.length∧∀ j,(F.clear i).b[j]? = if i*F.z≤j∧j < i*F.z+F.z then some 255 else F.b[j]?:=by
  unfold Fl.clear;split
  ·rename_i hb;refine ⟨rfl,fun j=>?_⟩;split
   ·rename_i p;obtain ⟨m,rfl⟩:=Nat.exists_eq_add_of_le p.1;have hm:m < F.z:=by omega
    have G:(F.sec i).length=F.z:=by unfold Fl.sec; rw [db,gh]; omega
    rw [← Fl.sec_get hm];exact qu hb (by rw [G]; exact hm)
   ·rfl
  ·refine ⟨?_,fun j=>uz (by omega)⟩;show (eraseB _ _).length=_;unfold eraseB;rw [gw (by rw [bq]; omega)]
 obtain ⟨d,e⟩:=q;have y:(spliceB (F.clear i).b (i*F.z) (headB s)).length=F.b.length:=by rw [gw (by rw [d,jo]; omega),d]
 have J:(F.opened i s).b.length=F.b.length:=by
  show (spliceB (spliceB (F.clear i).b (i*F.z) (headB s)) (i*F.z+8) [0]).length=_
  rw [gw (by rw [y]; show _+1≤_; omega),y]
 have A:∀ j,(F.opened i s).b[j]? = if j < i*F.z+8 then (if j < i*F.z then (F.clear i).b[j]? else if j < i*F.z+8 then (headB s)[j - i*F.z]? else (F.clear i).b[j]?) else if j < i*F.z+9 then ([0]:Bs)[j - (i*F.z+8)]? else (if j < i*F.z then (F.clear i).b[j]? else if j < i*F.z+8 then (headB s)[j - i*F.z]? else (F.clear i).b[j]?):=fun j=>by
  show (spliceB (spliceB (F.clear i).b (i*F.z) (headB s)) (i*F.z+8) [0])[j]? = _
  rw [lg (by rw [y]; show _+1≤_; omega),lg (by rw [d,jo]; omega),jo];rfl
 refine ⟨J,fun p=>?_,fun h1 h2=>?_,fun h1=>?_⟩
 ·rw [A];rcases p with p | p
  ·rw [if_pos (by omega),if_pos p,e,if_neg (by omega)]
  ·rw [if_neg (by omega),if_neg (by omega),if_neg (by omega),if_neg (by omega),e,if_neg (by omega)]
 ·rw [A,if_neg (by omega),if_neg (by omega),if_neg (by omega),if_neg (by omega),e,if_pos (by omega)]
 ·rw [A];by_cases c:j < 8
  ·rw [if_pos (by omega),if_neg (by omega),if_pos (by omega),ag (by rw [jo]; exact c),iw]
  ·obtain rfl:j=8:=by omega
   rw [if_neg (by omega),if_pos (by omega),qh,aw (by rw [jo]; decide),jo]
theorem zap {kl:List Bs} {F:Fl} {K:StU} (h:Inv kl F K) {i Q:Nat} (U:nextS F K=(i,true)) (hq:K.seq+1 < 4294967296) (V:(F.clear i).w[i]? = some Q) :
  Inv kl (F.opened i (K.seq+1)) { K with secs:=K.secs.set i ⟨2,(K.seq:Int)+1,Q⟩,head:=i,at_:=12,txn:=0,seq:=K.seq+1 }:=by
 obtain ⟨y,hy,hm⟩:∃ y,K.secs[i]? = some y∧opn F.lim y=true:=by have:=qi (opn F.lim) Sec.er K.secs K.secs.length (by unfold nextS at U; rw [U]);unfold nextS at U;rw [U] at this;exact this
 have hi:i < F.n:=by rw [← h.ln]; exact ah hy
 have W:y=F.look i:=by have:=h.lk i hi; rw [hy] at this; exact ce this
 have X:(F.look i).st≠2:=fun e=>by rw [W] at hm;unfold opn at hm;rw [e] at hm;simp at hm
 have hz:=h.gz;obtain ⟨c1,c2,c3⟩:=qv F i;have q:(F.opened i (K.seq+1)).n=F.n:=c1;have p:(F.opened i (K.seq+1)).z=F.z:=c2;have C:=fun j=>opened_get (s:=K.seq+1) (j:=j) hi h.bl hz
 have a0:∀ k,k≠i→(F.opened i (K.seq+1)).w[k]? = F.w[k]?:=fun k d=>by
  show (F.clear i).w[k]? = _
  unfold Fl.clear;split
  ·rfl
  ·show (F.w.set i _)[k]? = _
   rw [aq (fun e=>d e.symm)]
 have a6:(F.opened i (K.seq+1)).w.length=F.n:=by
  show (F.clear i).w.length=_
  unfold Fl.clear;split
  ·exact h.wl
  ·show (F.w.set i _).length=_
   rw [az]; exact h.wl
 have D:∀ k,k≠i→(F.opened i (K.seq+1)).look k=F.look k:=fun k d=>vu p (fun j hj=>(C _).2.1 (uy d hj)) (a0 k d)
 have G:(F.opened i (K.seq+1)).look i=⟨2,(K.seq:Int)+1,Q⟩:=by
  have aa:(F.opened i (K.seq+1)).w[i]? = some Q:=V;unfold Fl.look;rw [aa,ed,lookB_open (seq:=K.seq+1) ?_ ?_ hq]
  ·rfl
  ·refine jj fun j=>?_
   rw [eo];split
   ·rw [Fl.sec_get (by rw [p]; omega),p];exact (C j).2.2.2 (by assumption)
   ·rw [bw];rw [au,jo];show 9≤j;omega
  ·rw [Fl.sec_get (by rw [p]; omega),p];exact (C 9).2.2.1 (by decide) (by omega)
 have J:∀ e ∈ K.ix,e.2.1.sec≠i:=fun e A c=>X (by rw [← c]; exact (h.en e A).2.1)
 refine ⟨by rw [p]; exact hz,by rw [(C 0).1,q,p]; exact h.bl,by rw [a6,q],by rw [q]; show (K.secs.set _ _).length=_; rw [az]; exact h.ln,fun k d=>?_,h.dn,.inr ⟨i,rfl,by rw [q]; exact hi,by rw [G],aj _,by rw [p]; exact hz,fk _,fun j L N=>?_⟩,h.ix,fun e A=>?_,fun k d=>?_⟩
 ·rw [q] at d;show (K.secs.set i _)[k]? = _;by_cases c:k=i
  ·subst c;rw [G];exact bj (by rw [h.ln]; exact d)
  ·rw [aq (fun e=>c e.symm),D k c];exact h.lk k d
 ·rw [p] at N ⊢;have L:12≤j:=L;exact (C j).2.2.1 (by omega) N
 ·obtain ⟨b1,b2,b3,b4⟩:=h.en e A;exact ⟨by rw [q]; exact b1,by rw [D _ (J e A)]; exact b2,b3,b4⟩
 ·have ac:k≠i:=fun c=>d (secSum_zero fun e A=>by rw [c]; exact J e A)
  have:=h.sz k d;have hc:¬ ((i:Nat):Int)=(k:Int):=by omega
  show _≤if ((i:Nat):Int)=(k:Int) then 12 else (F.opened i (K.seq+1)).z
  rw [if_neg hc,p];have O:secSum k K.ix+28≤if K.head=(k:Int) then K.at_ else F.z:=this
  show secSum k K.ix+28≤F.z
  split at O
  ·rename_i c;rcases h.hd with e | ⟨y,b1,b2,b3,b4,b5,b6,b7⟩
   ·omega
   ·omega
  ·exact O
theorem none_inv {kl:List Bs} {F:Fl} {K:StU} (h:Inv kl F K):Inv kl F { K with head:=-1 } :=
 ⟨h.gz,h.bl,h.wl,h.ln,h.lk,h.dn,.inl rfl,h.ix,h.en,fun i hi=>by
  have:=h.sz i hi;have hc:¬ (-1:Int)=(i:Int):=by omega
  show _≤if (-1:Int)=(i:Int) then K.at_ else F.z
  rw [if_neg hc];have d:secSum i K.ix+28≤if K.head=(i:Int) then K.at_ else F.z:=this
  show secSum i K.ix+28≤F.z
  split at d
  ·rcases h.hd with e | ⟨y,b1,b2,b3,b4,j,p,q⟩
   ·omega
   ·omega
  ·exact d⟩
end Go.Abs.AbsBlb
