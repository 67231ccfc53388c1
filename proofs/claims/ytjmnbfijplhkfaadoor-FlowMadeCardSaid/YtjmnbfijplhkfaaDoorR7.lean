/-
  Texts joined.
-/
import Derived.Test.YtjmnbfijplhkfaaDoorR0
import Derived.Test.YtjmnbfijplhkfaaDoorR6
set_option linter.unusedVariables false
set_option linter.unusedSimpArgs false
set_option maxRecDepth 100000
namespace Go.Abs.AbsDesc
variable {os:List AObj} {b w:Nat}
def firstIx {α:Type} (p:α→Bool):List α→Nat→Int
 | [],_=>-1
 | x :: l,i=>if p x then i else firstIx p l (i+1)
theorem firstIx_ge {α:Type} (p:α→Bool):∀ (l:List α) (i:Nat),(decide (0≤firstIx p l i))=l.any p
 | [],i=>by simp [firstIx]
 | x :: l,i=>by
  simp only [firstIx,List.any_cons]
  by_cases h:p x=true
  ·simp [h]
  ·simp only [Bool.not_eq_true] at h
   simp [h,firstIx_ge p l (i+1)]
theorem ji {α:Type} (p:α→Bool):∀ (l:List α) (i:Nat),(∀ x ∈ l,p x=false)→firstIx p l i = -1
 | [],_,_=>rfl
 | x :: l,i,h=>by
  simp only [firstIx,h x (av ..),bj,if_false]
  exact ji p l (i+1) fun y hy=>h y (bq _ hy)
theorem firstIx_at {α:Type} (p:α→Bool):∀ (l:List α) (i j:Nat) (x:α),l[j]? = some x→p x=true→(∀ k,k < j→∀ y,l[k]? = some y→p y=false)→firstIx p l i=(i+j:Nat)
 | [],i,j,x,h,_,_=>by simp at h
 | y :: l,i,0,x,h,hp,_=>by
  simp at h; subst h
  simp [firstIx,hp]
 | y :: l,i,j+1,x,h,hp,hb=>by
  have h0:=hb 0 (by omega) y rfl
  simp only [firstIx,h0,bj,if_false]
  rw [firstIx_at p l (i+1) j x (by simpa using h) hp (fun k hk z hz=>hb (k+1) (by omega) z (by simpa using hz))]
  congr 1; omega
theorem loop_find {T:Nat→Option AFunc} {α:Type} {c:ACode} (p:α→Bool) (L:List α) (st:Nat→St) (out:Nat→St) (e1 e2:AExit) (fin:St)
  (hs:∀ (i:Nat) x,L[i]? = some x→xCode T c (st i)=some (if p x then (e1,out i) else (.normal,st (i+1)))) (h1:e1 ≠ .normal) (h2:e2 ≠ .normal) (hx:xCode T c (st L.length)=some (e2,fin)) :
  (L.any p=false∧xCode T (.loop c) (st 0)=some (e2,fin))∨∃ (j:Nat) (x:α),L[j]? = some x∧p x=true∧(∀ k,k < j→∀ y,L[k]? = some y→p y=false)∧xCode T (.loop c) (st 0)=some (e1,out j):=by
 rcases first_bad (fun x=>p x=false) L with h | ⟨j,x,h3,h4,h5⟩
 ·left
  refine ⟨by rw [List.any_eq_false]; exact fun x hx=>by simp [h x hx],?_⟩
  refine loop_all st L.length (fun i hi=>?_) h2 hx
  obtain ⟨x,hx⟩:∃ x,L[i]? = some x:=⟨_,ak hi⟩
  rw [hs i x hx,h x (a8 hx)]
  rfl
 ·right
  simp only [Bool.not_eq_false] at h4
  refine ⟨j,x,h3,h4,h5,?_⟩
  refine loop_all st j (fun i hi=>?_) h1 (by rw [hs j x h3,h4]; rfl)
  obtain ⟨y,hy⟩:∃ y,L[i]? = some y:=⟨_,ak (Nat.lt_trans hi (get_lt h3))⟩
  rw [hs i y hy,h5 i hi y hy]
  rfl
def byteCell (c:UInt8):List AVal:=[.int .u8 c.toNat]
def strCell (s:List UInt8):List AVal:=[.str s]
theorem s176 {L:List UInt8} {a:Option (Nat × Nat)} {c:Option Nat} {g:Nat} {p:UInt8→Bool} (hR:Row os 1 byteCell L a) (hn:L.length≤9223372036854775807)
  (hg:∀ (x:UInt8) (w:Nat),xCall T g [.int .u8 x.toNat] ⟨os,b,w⟩=some (.bool (p x),⟨os,b,w⟩)) :
  xCall T 176 [.slice a L.length c,.func g [] []] ⟨os,b,w⟩=some (.int .i64 (firstIx p L 0),⟨os,b,w⟩):=by
 have hl:=loop_find (T:=T) (c:=code176L0) p L (fun i=>⟨[(0,.val (.slice a L.length c)),(1,.val (.func g [] [])),(7,.val (.int .i64 L.length)),(8,.val (.int .i64 i))],⟨os,b,os.length⟩⟩)
  (fun i=>⟨[(4,.val (.int .i64 i))],⟨os,b,os.length⟩⟩) .ret (.exit 0) ⟨[],⟨os,b,os.length⟩⟩ ?_ (by simp) (by simp) (by simp [code176L0])
 ·rcases hl with ⟨h1,h2⟩ | ⟨j,x,h1,h2,h3,h4⟩
  ·rw [List.any_eq_false] at h1
   rw [ji p L 0 fun x hx=>by simpa using h1 x hx]
   simp only [b7] at h2
   simp [dt T t176,code176,h2]
  ·rw [firstIx_at p L 0 j x h1 h2 h3]
   simp only [b7] at h4
   simp [dt T t176,code176,h4]
 ·intro i x hx
  obtain ⟨bb,o,cs,rfl,hrow,hpart⟩:=hR.at' (ne_of_get hx)
  obtain ⟨p1,p2⟩:=hpart i x hx
  have hw:=wrap_next (get_lt hx) hn
  have hi':(i:Int) < (L.length:Int):=by have:=get_lt hx; omega
  have hge:(0:Int)≤i:=by omega
  have q3:(List.take 1 (List.drop (o+i*1) cs))[0]? = some (.int .u8 x.toNat):=by rw [p2]; rfl
  have q4:cs[o+i]? = some (.int .u8 x.toNat):=by simpa using q3
  by_cases hp:p x=true
  ·simp [code176L0,hi',hge,hrow,q4,hg,hp]
  ·simp [code176L0,hi',hge,hrow,q4,hg,hp,hw]
theorem s142 {L:List (List UInt8)} {a:Option (Nat × Nat)} {c:Option Nat} {g:Nat} {p:List UInt8→Bool} (hR:Row os 1 strCell L a) (hn:L.length≤9223372036854775807)
  (hg:∀ x ∈ L,∀ (w:Nat),xCall T g [.str x] ⟨os,b,w⟩=some (.bool (p x),⟨os,b,w⟩)) :
  xCall T 142 [.slice a L.length c,.func g [] []] ⟨os,b,w⟩=some (.int .i64 (firstIx p L 0),⟨os,b,w⟩):=by
 have hl:=loop_find (T:=T) (c:=code142L0) p L (fun i=>⟨[(0,.val (.slice a L.length c)),(1,.val (.func g [] [])),(7,.val (.int .i64 L.length)),(8,.val (.int .i64 i))],⟨os,b,os.length⟩⟩)
  (fun i=>⟨[(4,.val (.int .i64 i))],⟨os,b,os.length⟩⟩) .ret (.exit 0) ⟨[],⟨os,b,os.length⟩⟩ ?_ (by simp) (by simp) (by simp [code142L0])
 ·rcases hl with ⟨h1,h2⟩ | ⟨j,x,h1,h2,h3,h4⟩
  ·rw [List.any_eq_false] at h1
   rw [ji p L 0 fun x hx=>by simpa using h1 x hx]
   simp only [b7] at h2
   simp [dt T t142,code142,h2]
  ·rw [firstIx_at p L 0 j x h1 h2 h3]
   simp only [b7] at h4
   simp [dt T t142,code142,h4]
 ·intro i x hx
  obtain ⟨bb,o,cs,rfl,hrow,hpart⟩:=hR.at' (ne_of_get hx)
  obtain ⟨p1,p2⟩:=hpart i x hx
  have hw:=wrap_next (get_lt hx) hn
  have hi':(i:Int) < (L.length:Int):=by have:=get_lt hx; omega
  have hge:(0:Int)≤i:=by omega
  have q3:(List.take 1 (List.drop (o+i*1) cs))[0]? = some (.str x):=by rw [p2]; rfl
  have q4:cs[o+i]? = some (.str x):=by simpa using q3
  have hgx:=hg x (a8 hx)
  by_cases hp:p x=true
  ·simp [code142L0,hi',hge,hrow,q4,hgx,hp]
  ·simp [code142L0,hi',hge,hrow,q4,hgx,hp,hw]
theorem s145 {L:List UInt8} {a:Option (Nat × Nat)} {c:Option Nat} {g:Nat} {p:UInt8→Bool} (hR:Row os 1 byteCell L a) (hn:L.length≤9223372036854775807)
  (hg:∀ (x:UInt8) (w:Nat),xCall T g [.int .u8 x.toNat] ⟨os,b,w⟩=some (.bool (p x),⟨os,b,w⟩)) :
  xCall T 145 [.slice a L.length c,.func g [] []] ⟨os,b,w⟩=some (.bool (L.any p),⟨os,b,w⟩):=by
 have h:=s176 (w:=os.length) (c:=c) hR hn hg
 have h2:=firstIx_ge p L 0
 simp [dt T t145,code145,h,h2]
theorem s91 {L:List (List UInt8)} {a:Option (Nat × Nat)} {c:Option Nat} {g:Nat} {p:List UInt8→Bool} (hR:Row os 1 strCell L a) (hn:L.length≤9223372036854775807)
  (hg:∀ x ∈ L,∀ (w:Nat),xCall T g [.str x] ⟨os,b,w⟩=some (.bool (p x),⟨os,b,w⟩)) :
  xCall T 91 [.slice a L.length c,.func g [] []] ⟨os,b,w⟩=some (.bool (L.any p),⟨os,b,w⟩):=by
 have h:=s142 (w:=os.length) (c:=c) hR hn hg
 have h2:=firstIx_ge p L 0
 simp [dt T t91,code91,h,h2]
theorem flat_bytes:∀ s:List UInt8,(s.map fun c=>AVal.int .u8 c.toNat)=s.flatMap byteCell
 | []=>rfl
 | c :: s=>by
  rw [cr,cg,flat_bytes s]
  rfl
def wordL (s:List UInt8):Bool:=!s.isEmpty && s.all fun c=>wordN c.toNat
theorem any_not {α:Type} (p:α→Bool):∀ l:List α,(l.any fun x=>!p x) = !l.all p
 | []=>rfl
 | x :: l=>by rw [List.any_cons,List.all_cons,any_not p l,Bool.not_and]
theorem s144 {s:List UInt8} (hn:s.length≤9223372036854775807):xCall T 144 [.str s] ⟨os,b,w⟩=some (.bool (wordL s),⟨os,b,w⟩):=by
 have h:=fun w=>s145 (os:=os++[.cells 1 (s.map fun c=>AVal.int .u8 c.toNat)]) (b:=b) (w:=w) (L:=s) (a:=some (os.length,0)) (c:=none) (g:=146) (p:=fun x=>!wordN x.toNat)
  (Row.mk0 (fun _=>rfl) (by rw [← flat_bytes]; simp)) hn (fun x w=>s146)
 by_cases e:s=[]
 ·subst e
  simp [dt T t144,code144,wordL]
 ·have he:s.isEmpty=false:=by cases s <;> simp_all
  simp [dt T t144,code144,wordL,h,e,he,any_not,hn]
theorem s92 {s:List UInt8} (hn:s.length≤9223372036854775807):xCall T 92 [.str s] ⟨os,b,w⟩=some (.bool (!wordL s),⟨os,b,w⟩):=by
 have h:=fun w=>s144 (os:=os) (b:=b) (w:=w) hn
 simp [dt T t92,code92,h]
end Go.Abs.AbsDesc

namespace Go.Abs
open Go.Abs.AbsDesc
section
variable {os:List AObj} {b w:Nat} {d:Dat} {cs:List AVal}
theorem has_byte (h:Has ⟨os,b,w⟩ (.int .u8) d cs):∃ x:UInt8,cs=byteCell x∧True:=by
 obtain ⟨n,_,rfl,h1,h2⟩:=h.int
 have e1:IntKind.u8.min=0:=rfl
 have e2:IntKind.u8.max=255:=rfl
 rw [e1] at h1
 rw [e2] at h2
 refine ⟨UInt8.ofNat n.toNat,?_,trivial⟩
 unfold byteCell
 have:((UInt8.ofNat n.toNat).toNat:Int)=n:=by
  rw [UInt8.toNat_ofNat']
  have:n.toNat % 2 ^ 8=n.toNat:=Nat.mod_eq_of_lt (by omega)
  rw [this]; omega
 rw [this]
theorem has_bytes (hb:b≤os.length) (h:Has ⟨os,b,w⟩ (.slice (.int .u8)) d cs):∃ (a:Option (Nat × Nat)) (L:List UInt8) (c:Option Nat),cs=[.slice a L.length c]∧Row os 1 byteCell L a∧L.length≤reachB∧under os.length a:=by
 obtain ⟨a,L,c,h1,h2,h3,_,h5,_⟩:=h.row fun d c h=>has_byte h
 exact ⟨a,L,c,h1,h2,h3,under_of h5 hb⟩
end
end Go.Abs

namespace Go.Abs.AbsMk
structure WX where
 C:List InsU
 S:List TrapU
 M:List (Int × List Str × List Str)
def opI (op n:Int):InsU:=⟨op,n,0,[],[],[],[]⟩
def nameI (op:Int) (c m d:Str):InsU:=⟨op,0,0,c,m,d,[]⟩
def numI (x:Int):InsU:=if -1≤x∧x≤5 then opI (IntKind.u8.wrap (3+x)) 0 else if x < 128 then opI 16 x else opI 17 x
def mainS:Str:=[77,97,105,110]
def sysS:Str:=[115,121,115]
def descI1:Str:=[40,73,41,73]
def acts151:List Int:=[96,100,104,108,126,130,120,112,128,124]
def acts183:List Int:=[97,101,105,109,127,131,113,129]
def acts183b:List Int:=[121,123,125]
mutual
inductive GI:List InsU→Prop
 | load (r:Nat):r < 3→GI [opI 21 r]
 | num (x:Int):-100≤x→x≤200→GI [numI x]
 | stat:GI [nameI 178 mainS [115] [73]]
 | bin (y:Int) (a c:List InsU):y ∈ acts151→GI a→GI c→GI (a++(c++[opI y 0]))
 | l2i (a:List InsU):GL a→GI (a++[opI 136 0])
 | iaload (a:List InsU):GI a→GI (opI 25 6 :: (a++[opI 46 0]))
 | field:GI [opI 25 5,nameI 180 [65] [102] [73]]
 | callv (a:List InsU):GI a→GI (opI 25 5 :: (a++[nameI 182 [65] [118] descI1]))
 | callh (a:List InsU):GI a→GI (a++[nameI 184 mainS [104,101,108,112] descI1])
 | alen (r:Nat):r < 2→GI [opI 25 (6+r),opI 190 0]
 | inst:GI [opI 25 5,⟨193,0,0,[66],[],[],[]⟩]
 | lcmp (a c:List InsU):GL a→GL c→GI (a++(c++[opI 148 0]))
inductive GL:List InsU→Prop
 | bin (y:Int) (a c:List InsU):y ∈ acts183→GL a→GL c→GL (a++(c++[opI y 0]))
 | shift (y:Int) (a c:List InsU):y ∈ acts183b→GL a→GI c→GL (a++(c++[opI y 0]))
 | load:GL [opI 22 3]
 | ldc (r:Nat):r < 256→GL [⟨20,(r:Int)*1099511627776 - 5,0,[],[],[74],[]⟩]
 | i2l (a:List InsU):GI a→GL (a++[opI 133 0])
end
inductive GO:List InsU→Prop
 | null:GO [opI 1 0]
 | newB:GO [⟨187,0,0,[66],[],[],[]⟩]
 | cast:GO [opI 25 5,⟨192,0,0,[66],[],[],[]⟩]
 | newA:GO [⟨187,0,0,[65],[],[],[]⟩]
inductive GR:List InsU→Prop
 | add:GR [opI 25 7,nameI 184 sysS [97,100,100] [40,91,66,41,73],opI 54 1]
 | get (a:List InsU):GI a→GR (a++[nameI 184 sysS [103,101,116] [40,73,41,91,66],opI 58 7])
 | set (a:List InsU):GI a→GR (a++[opI 25 7,nameI 184 sysS [115,101,116] [40,73,91,66,41,86]])
 | count:GR [nameI 184 sysS [99,111,117,110,116] [40,41,73],opI 54 1]
inductive GF:List InsU→Prop
 | istore (a:List InsU) (r:Nat):GI a→r < 2→GF (a++[opI 54 (1+r)])
 | print (a:List InsU):GI a→GF (a++[nameI 184 sysS [112,114,105,110,116] [40,73,41,86]])
 | lstore (a:List InsU):GL a→GF (a++[opI 55 3])
 | astore (a:List InsU):GO a→GF (a++[opI 58 5])
 | putf (a:List InsU):GI a→GF (opI 25 5 :: (a++[nameI 181 [65] [102] [73]]))
 | puts (a:List InsU):GI a→GF (a++[nameI 179 mainS [115] [73]])
 | newarr (a:List InsU) (r:Nat):GI a→r < 2→GF (a++[opI 188 (10 - 2*r),opI 58 (6+r)])
 | iastore (a c:List InsU):GI a→GI c→GF (opI 25 6 :: (a++(c++[opI 79 0])))
 | record (a:List InsU):GR a→GF a
 | ldc:GF [⟨18,0,0,[],[],[83],[104,105]⟩,opI 58 7]
 | text:GF [opI 25 7,nameI 184 sysS [112,114,105,110,116,84,101,120,116] [40,91,66,41,86]]
 | iinc (r q:Nat):r < 3→q < 9→GF [⟨132,r,(q:Int) - 4,[],[],[],[]⟩]
def WX.add (X:WX) (E:List InsU):WX:=⟨X.C++E,X.S,X.M⟩
def WX.trap (X:WX) (t:TrapU):WX:=⟨X.C,X.S++[t],X.M⟩
def WX.setN (X:WX) (i:Nat) (z:Int):WX:=⟨X.C.modify i fun x=>{ x with n:=z },X.S,X.M⟩
def localsL:List Str:=[[73],[73],[73],[74],[76,65,59],[91,73],[91,66]]
def WX.label (X:WX) (st:List Str):WX:=if (∃ y,X.M.getLast? = some y∧y.1=X.C.length) then X else ⟨X.C,X.S,X.M++[((X.C.length:Int),localsL,st)]⟩
def WX.aim (X:WX) (i:Nat):WX:=(X.label []).setN i X.C.length
theorem WX.add_add (X:WX) (A E:List InsU):(X.add A).add E=X.add (A++E):=by unfold WX.add; simp
def acts185:List Int:=[153,154,155,156,157,158]
def classesT:List Str:=[[],[84,104,114,111,119,97,98,108,101],[77,97,116,104,70,97,117,108,116],[79,111,112,115],[78,117,108,108,70,97,117,108,116]]
def caughtS (y:Str):Str:=if y=[] then [84,104,114,111,119,97,98,108,101] else y
def stackT (y:Str):List Str:=[76 :: (caughtS y++[59])]
mutual
inductive GS:WX→WX→Prop
 | flat (X:WX) (E:List InsU):GF E→GS X (X.add E)
 | choice (X X2 X3:WX) (a:List InsU) (y:Int):GI a→y ∈ acts185→GSs (X.add (a++[opI y 0])) X2→GSs ((X2.add [opI 167 0]).aim (X.C.length+a.length)) X3→GS X (X3.aim X2.C.length)
 | loop (X X2:WX) (r:Nat):r < 5→GSs (((X.add [numI r,opI 54 2]).label []).add [opI 21 2,opI 158 0]) X2 →
   GS X ((X2.add [⟨132,2,-1,[],[],[],[]⟩,opI 167 ((X.C.length+2:Nat):Int)]).aim (X.C.length+3))
 | guarded (X X2 X3:WX) (y:Str) (th:Bool):y ∈ classesT→GSs X X2 →
   GSs (((X2.add (if th then [⟨187,0,0,[79,111,112,115],[],[],[]⟩,opI 191 0] else [opI 0 0,opI 167 0])).label (stackT y)).add [opI 87 0]) X3 →
   GS X (((if th then X3.label [] else X3.aim (X2.C.length+1))).trap ⟨X.C.length,X2.C.length+(if th then 2 else 1),X2.C.length+2,y⟩)
inductive GSs:WX→WX→Prop
 | one (X Y:WX):GS X Y→GSs X Y
 | more (X Y Z:WX):GSs X Y→GS Y Z→GSs X Z
end
theorem dv (X:WX) (E:List InsU):(X.add E).C.length=X.C.length+E.length:=by simp [WX.add]
theorem ff (X:WX) (st:List Str):(X.label st).C=X.C:=by unfold WX.label; split <;> rfl
theorem label_S (X:WX) (st:List Str):(X.label st).S=X.S:=by unfold WX.label; split <;> rfl
theorem aim_len (X:WX) (i:Nat):(X.aim i).C.length=X.C.length:=by simp [WX.aim,WX.setN,ff]
mutual
theorem GS.len:∀ {X Y:WX},GS X Y→X.C.length≤Y.C.length
 | _,_,.flat X E _=>by rw [dv]; omega
 | _,_,.choice X X2 X3 a y _ _ h1 h2=>by
  have h3:=GSs.len h1
  have h4:=GSs.len h2
  rw [aim_len] at h4 ⊢
  rw [dv] at h3 h4
  omega
 | _,_,.loop X X2 r _ h1=>by
  have h3:=GSs.len h1
  rw [aim_len,dv]
  rw [dv,ff,dv] at h3
  omega
 | _,_,.guarded X X2 X3 y th _ h1 h2=>by
  have h3:=GSs.len h1
  have h4:=GSs.len h2
  rw [dv,ff,dv] at h4
  have h5:((if th then X3.label [] else X3.aim (X2.C.length+1)).trap ⟨X.C.length,X2.C.length+(if th then 2 else 1),X2.C.length+2,y⟩).C.length=X3.C.length:=by
   cases th
   ·exact aim_len _ _
   ·exact congrArg List.length (ff _ _)
  rw [h5]; omega
theorem GSs.len:∀ {X Y:WX},GSs X Y→X.C.length≤Y.C.length
 | _,_,.one X Y h=>GS.len h
 | _,_,.more X Y Z h1 h2=>bl (GSs.len h1) (GS.len h2)
end
def WX.nil:WX:=⟨[],[],[]⟩
def acts101:List Int:=[96,104,130]
def preB (x y z:Int):List InsU:=[numI x,opI 54 1,numI y,opI 54 2,opI 10 0,opI 55 3,⟨187,0,0,[65],[],[],[]⟩,opI 58 5,numI z,opI 188 10,opI 58 6,opI 1 0,opI 58 7]
inductive GB:WX→Prop
 | mk (x y z:Nat) (X:WX) (a:List InsU):x < 4→y < 4→z < 5→GSs (WX.nil.add (preB x y z)) X→GI a→GB (X.add (a++[opI 172 0]))
def codeV (y:Int):List InsU:=[opI 21 1,numI 3,opI 96 0,opI 25 0,nameI 180 [65] [102] [73],opI y 0,opI 172 0]
def Body (m:MethU):Prop:=(m.st=true∧m.stack=40∧m.locals=8∧∃ X,GB X∧m.code=X.C∧m.traps=X.S∧m.maps.map (fun x=>(x.at',x.locals,x.stack))=X.M) ∨
 (m.st=false∧m.stack=8∧m.locals=2∧m.traps=[]∧m.maps=[]∧∃ y ∈ acts101,m.code=codeV y)
end Go.Abs.AbsMk

namespace Go.Abs.AbsHier
open Go.Abs.Short
-- base: AbsDesc
def T:Nat→Option AFunc:=fun g=>match AbsDesc.T g with
 | some f=>some f
 | none=>List.lookup g []
theorem sub:∀ g f,AbsDesc.T g=some f→T g=some f:=fun g f h=>by unfold T; rw [h]
end Go.Abs.AbsHier

namespace Go.Abs.AbsMake
open Go.Abs.Short
-- base: AbsHier
def code48T0:ACode :=
 .seq (R [2] [o 47 (.load (some 4) (t 3)),o 48 (.load (some 4) (t 4)),o 49 (.load (some 4) (t 5)),o 50 (.build [.str [],.str [],.slice none 0 (some 0),.slice none 0 (some 0)] [(0,1,.const (.str [79,111,112,115])),(1,1,.const (.str [84,104,114,111,119,97,98,108,101]))]),o 51 (.mkslice 4 4 [.str [],.str [],.slice none 0 (some 0),.slice none 0 (some 0),.str [],.str [],.slice none 0 (some 0),.slice none 0 (some 0),.str [],.str [],.slice none 0 (some 0),.slice none 0 (some 0),.str [],.str [],.slice none 0 (some 0),.slice none 0 (some 0)] [(0,4,t 47),(4,4,t 48),(8,4,t 49),(12,4,t 50)]),v 2 51])
 (.live [2] (.ret))
def code48T1:ACode :=
 .seq (.seq (R [0,3,4,5,42] [v 40 0,o 41 (.callg 102 [t 40,n 3]),o 42 (.bin .gtr (t 41) (n 0))])
 (.after (.cond (t 42) (R [3,4,5] [v 43 0,o 44 (.callg 101 [t 43,.const (.bool false),.const (.str [118]),n 0]),o 45 (.mkslice 8 1 [.bool false,.str [],.str [],.int .i64 0,.int .i64 0,.slice none 0 (some 0),.slice none 0 (some 0),.slice none 0 (some 0)] [(0,8,t 44)]),o 46 (.faddr (t 5) 3),u (.store 1 (t 46) (t 45))]) (.skip)) [3,4,5]))
 (code48T0)
def code48T2:ACode :=
 .seq (R [0,3,4,5] [o 37 (.build [.bool false,.str [],.str []] [(1,1,.const (.str [103])),(2,1,.const (.str [73]))]),o 38 (.mkslice 3 1 [.bool false,.str [],.str []] [(0,3,t 37)]),o 39 (.build [.str [],.str [],.slice none 0 (some 0),.slice none 0 (some 0)] [(0,1,.const (.str [66])),(1,1,.const (.str [65])),(2,1,t 38)]),o 5 (.lalloc [.str [],.str [],.slice none 0 (some 0),.slice none 0 (some 0)]),u (.store 4 (t 5) (t 39))])
 (code48T1)
def code48T3:ACode :=
 .seq (R [0,3,4] [o 29 (.build [.bool false,.str [],.str []] [(1,1,.const (.str [102])),(2,1,.const (.str [73]))]),o 30 (.build [.bool false,.str [],.str []] [(1,1,.const (.str [108])),(2,1,.const (.str [74]))]),o 31 (.build [.bool false,.str [],.str []] [(1,1,.const (.str [110,101,120,116])),(2,1,.const (.str [76,65,59]))]),o 32 (.mkslice 3 3 [.bool false,.str [],.str [],.bool false,.str [],.str [],.bool false,.str [],.str []] [(0,3,t 29),(3,3,t 30),(6,3,t 31)]),v 33 0,o 34 (.callg 101 [t 33,.const (.bool false),.const (.str [118]),n 0]),o 35 (.mkslice 8 1 [.bool false,.str [],.str [],.int .i64 0,.int .i64 0,.slice none 0 (some 0),.slice none 0 (some 0),.slice none 0 (some 0)] [(0,8,t 34)]),o 36 (.build [.str [],.str [],.slice none 0 (some 0),.slice none 0 (some 0)] [(0,1,.const (.str [65])),(1,1,.const (.str [79,98,106,101,99,116])),(2,1,t 32),(3,1,t 35)]),o 4 (.lalloc [.str [],.str [],.slice none 0 (some 0),.slice none 0 (some 0)]),u (.store 4 (t 4) (t 36))])
 (code48T2)
def code48T4:ACode :=
 .seq (R [0,3] [v 10 0,o 11 (.callg 101 [t 10,.const (.bool true),.const (.str [109,97,105,110]),n 6]),o 12 (.build [.int .u8 0,.int .i64 0,.int .i64 0,.str [],.str [],.str [],.str []] [(0,1,.const (.int .u8 21))]),v 13 0,o 14 (.callg 102 [t 13,n 7]),o 15 (.bin .add (n 2) (t 14)),o 16 (.conv (.int .u8) (t 15)),o 17 (.build [.int .u8 0,.int .i64 0,.int .i64 0,.str [],.str [],.str [],.str []] [(0,1,t 16)]),o 18 (.mkslice 1 3 [.int .u8 0,.int .u8 0,.int .u8 0] [(0,1,.const (.int .u8 100)),(1,1,.const (.int .u8 108)),(2,1,.const (.int .u8 112))]),v 19 0,o 20 (.callg 102 [t 19,n 3]),o 21 (.iaddr 1 (t 18) (t 20)),o 22 (.load none (t 21)),o 23 (.build [.int .u8 0,.int .i64 0,.int .i64 0,.str [],.str [],.str [],.str []] [(0,1,t 22)]),o 24 (.build [.int .u8 0,.int .i64 0,.int .i64 0,.str [],.str [],.str [],.str []] [(0,1,.const (.int .u8 172))]),o 25 (.mkslice 7 4 [.int .u8 0,.int .i64 0,.int .i64 0,.str [],.str [],.str [],.str [],.int .u8 0,.int .i64 0,.int .i64 0,.str [],.str [],.str [],.str [],.int .u8 0,.int .i64 0,.int .i64 0,.str [],.str [],.str [],.str [],.int .u8 0,.int .i64 0,.int .i64 0,.str [],.str [],.str [],.str []] [(0,7,t 12),(7,7,t 17),(14,7,t 23),(21,7,t 24)]),o 26 (.build [.bool false,.str [],.str [],.int .i64 0,.int .i64 0,.slice none 0 (some 0),.slice none 0 (some 0),.slice none 0 (some 0)] [(0,1,.const (.bool true)),(1,1,.const (.str [104,101,108,112])),(2,1,.const (.str [40,73,41,73])),(3,1,n 4),(4,1,n 1),(5,1,t 25)]),o 27 (.mkslice 8 2 [.bool false,.str [],.str [],.int .i64 0,.int .i64 0,.slice none 0 (some 0),.slice none 0 (some 0),.slice none 0 (some 0),.bool false,.str [],.str [],.int .i64 0,.int .i64 0,.slice none 0 (some 0),.slice none 0 (some 0),.slice none 0 (some 0)] [(0,8,t 11),(8,8,t 26)]),o 28 (.faddr (t 3) 3),u (.store 1 (t 28) (t 27))])
 (code48T3)
def code48:AFunc:=⟨false,false,1,52,[.tmp 2],
 .seq (R [0] [o 2 (.val (.const (.slice none 0 (some 0))))])
 (.seq (R [0,3] [o 6 (.build [.bool false,.str [],.str []] [(0,1,.const (.bool true)),(1,1,.const (.str [115])),(2,1,.const (.str [73]))]),o 7 (.build [.bool false,.str [],.str []] [(0,1,.const (.bool true)),(1,1,.const (.str [111])),(2,1,.const (.str [76,65,59]))]),o 8 (.mkslice 3 2 [.bool false,.str [],.str [],.bool false,.str [],.str []] [(0,3,t 6),(3,3,t 7)]),o 9 (.build [.str [],.str [],.slice none 0 (some 0),.slice none 0 (some 0)] [(0,1,.const (.str [77,97,105,110])),(1,1,.const (.str [79,98,106,101,99,116])),(2,1,t 8)]),o 3 (.lalloc [.str [],.str [],.slice none 0 (some 0),.slice none 0 (some 0)]),u (.store 4 (t 3) (t 9))])
 (code48T4)),none⟩
def code101L0:ACode :=
 .live [2,8,9,12] (.seq (.seq (R [2,8,9,12,90] [v 89 12,o 90 (.bin .gtr (t 89) (n 0))])
 (.after (.cond (t 90) (.skip) (.live [2,8,9] (.exit 2))) [2,8,9,12]))
 (.seq (.after (.block 3 (R [2,8,9,12] [v 93 9,o 94 (.callg 152 [t 93])])) [2,8,9,12])
 (R [2,8,9,12] [v 91 12,o 92 (.bin .sub (t 91) (n 1)),v 12 92])))
def code101L1:ACode :=
 .live [0,2,3,8,9,43,44,45] (.seq (R [0,2,3,8,9,43,44,45,46] [o 46 (.bin .lss (t 45) (t 44))])
 (.seq (.after (.cond (t 46) (.skip) (.live [0,2,3,8,9] (.exit 0))) [0,2,3,8,9,43,44,45])
 (.seq (.after (.block 1 (.seq (R [0,2,3,8,9,11,43,44,45] [o 47 (.iaddr 1 (t 43) (t 45)),o 48 (.load none (t 47)),v 11 48])
 (.seq (R [0,2,3,8,9,11,43,44,45] [v 49 9,v 50 0,o 51 (.callg 102 [t 50,n 4]),o 52 (.callg 153 [t 49,t 51])])
 (R [0,2,3,8,9,43,44,45] [v 53 9,v 54 11,o 55 (.callg 150 [t 53,.const (.int .u8 54),t 54])])))) [0,2,3,8,9,43,44,45])
 (R [0,2,3,8,9,43,44,45] [o 56 (.bin .add (t 45) (n 1)),v 45 56]))))
def code101R0:ACode :=
 .after (.region [⟨true,[],[v 99 2,v 100 9,o 101 (.nilcheck (t 100)),o 102 (.faddr (t 101) 1),o 103 (.load none (t 102)),v 104 9,o 105 (.nilcheck (t 104)),o 106 (.faddr (t 105) 2),o 107 (.load none (t 106)),v 108 9,o 109 (.nilcheck (t 108)),o 110 (.faddr (t 109) 3),o 111 (.load none (t 110))]⟩,⟨false,[],[o 112 (.build [.bool false,.str [],.str [],.int .i64 0,.int .i64 0,.slice none 0 (some 0),.slice none 0 (some 0),.slice none 0 (some 0)] [(0,1,.const (.bool true)),(1,1,t 99),(2,1,.const (.str [40,73,41,73])),(3,1,n 40),(4,1,n 8),(5,1,t 103),(6,1,t 107),(7,1,t 111)]),u (.store 8 (t 8) (t 112))]⟩]) [8]
def code101T0:ACode :=
 .seq (.seq (R [2,8,9,12] [v 85 0,v 86 3,o 87 (.callg 102 [t 85,t 86]),o 88 (.bin .add (n 1) (t 87)),v 12 88])
 (.after (.block 2 (.loop code101L0)) [2,8,9]))
 (.seq (R [2,8,9] [v 95 9,o 96 (.callg 151 [t 95,n 1])])
 (.seq (R [2,8,9] [v 97 9,o 98 (.callg 150 [t 97,.const (.int .u8 172),n 0])])
 (.seq (code101R0)
 (.live [8] (.ret)))))
def code101T1:ACode :=
 .seq (R [0,2,3,8,9] [v 57 9,o 58 (.callg 150 [t 57,.const (.int .u8 10),n 0])])
 (.seq (R [0,2,3,8,9] [v 59 9,o 60 (.callg 150 [t 59,.const (.int .u8 55),n 3])])
 (.seq (R [0,2,3,8,9] [v 61 9,v 62 9,o 63 (.nilcheck (t 62)),o 64 (.faddr (t 63) 1),o 65 (.load none (t 64)),o 66 (.build [.int .u8 0,.int .i64 0,.int .i64 0,.str [],.str [],.str [],.str []] [(0,1,.const (.int .u8 187)),(3,1,.const (.str [65]))]),o 67 (.mkslice 7 1 [.int .u8 0,.int .i64 0,.int .i64 0,.str [],.str [],.str [],.str []] [(0,7,t 66)]),o 68 (.append 7 88 (t 65) (t 67)),o 69 (.nilcheck (t 61)),o 70 (.faddr (t 69) 1),u (.store 1 (t 70) (t 68))])
 (.seq (R [0,2,3,8,9] [v 71 9,o 72 (.callg 150 [t 71,.const (.int .u8 58),n 5])])
 (.seq (R [0,2,3,8,9] [v 73 9,v 74 0,o 75 (.callg 102 [t 74,n 5]),o 76 (.callg 153 [t 73,t 75])])
 (.seq (R [0,2,3,8,9] [v 77 9,o 78 (.callg 150 [t 77,.const (.int .u8 188),n 10])])
 (.seq (R [0,2,3,8,9] [v 79 9,o 80 (.callg 150 [t 79,.const (.int .u8 58),n 6])])
 (.seq (R [0,2,3,8,9] [v 81 9,o 82 (.callg 150 [t 81,.const (.int .u8 1),n 0])])
 (.seq (R [0,2,3,8,9] [v 83 9,o 84 (.callg 150 [t 83,.const (.int .u8 58),n 7])])
 (code101T0)))))))))
def code101:AFunc:=⟨false,false,4,113,[.cell 8 (some 8)],
 .seq (R [0,1,2,3,8] [o 8 (.lalloc [.bool false,.str [],.str [],.int .i64 0,.int .i64 0,.slice none 0 (some 0),.slice none 0 (some 0),.slice none 0 (some 0)])])
 (.seq (R [0,1,2,3,8,9] [v 13 0,o 14 (.build [.ptr none,.slice none 0 (some 0),.slice none 0 (some 0),.slice none 0 (some 0),.int .i64 0,.int .i64 0] [(0,1,t 13),(5,1,n 60)]),o 15 (.box (t 14)),v 9 15])
 (.seq (.seq (R [0,2,3,8,9,17] [v 16 1,o 17 (.un .not (t 16))])
 (.after (.cond (t 17) (.seq (R [0,2,8,9] [v 18 9,o 19 (.callg 150 [t 18,.const (.int .u8 21),n 1])])
 (.seq (R [0,2,8,9] [v 20 9,o 21 (.callg 153 [t 20,n 3])])
 (.seq (R [0,2,8,9] [v 22 9,o 23 (.callg 150 [t 22,.const (.int .u8 96),n 0])])
 (.seq (R [0,2,8,9] [v 24 9,o 25 (.callg 150 [t 24,.const (.int .u8 25),n 0])])
 (.seq (R [0,2,8,9] [v 26 9,o 27 (.callg 154 [t 26,.const (.int .u8 180),.const (.str [65]),.const (.str [102]),.const (.str [73])])])
 (.seq (R [2,8,9] [v 28 9,o 29 (.mkslice 1 3 [.int .u8 0,.int .u8 0,.int .u8 0] [(0,1,.const (.int .u8 96)),(1,1,.const (.int .u8 104)),(2,1,.const (.int .u8 130))]),v 30 0,o 31 (.callg 102 [t 30,n 3]),o 32 (.iaddr 1 (t 29) (t 31)),o 33 (.load none (t 32)),o 34 (.callg 150 [t 28,t 33,n 0])])
 (.seq (R [2,8,9] [v 35 9,o 36 (.callg 150 [t 35,.const (.int .u8 172),n 0])])
 (.seq (R [8] [v 37 2,v 38 9,o 39 (.nilcheck (t 38)),o 40 (.faddr (t 39) 1),o 41 (.load none (t 40)),o 42 (.build [.bool false,.str [],.str [],.int .i64 0,.int .i64 0,.slice none 0 (some 0),.slice none 0 (some 0),.slice none 0 (some 0)] [(1,1,t 37),(2,1,.const (.str [40,73,41,73])),(3,1,n 8),(4,1,n 2),(5,1,t 41)]),u (.store 8 (t 8) (t 42))])
 (.live [8] (.ret)))))))))) (.skip)) [0,2,3,8,9]))
 (.seq (.seq (R [0,2,3,8,9,43,44,45] [o 43 (.mkslice 1 2 [.int .i64 0,.int .i64 0] [(0,1,n 1),(1,1,n 2)]),o 44 (.len .sl (t 43)),o 45 (.val (n 0))])
 (.after (.block 0 (.loop code101L1)) [0,2,3,8,9]))
 (code101T1)))),none⟩
def code102:AFunc:=⟨false,false,2,41,[.tmp 4],
 .seq (R [0,1] [o 4 (.val (n 0))])
 (.seq (.seq (.after (.region [⟨false,[],[v 5 1,o 6 (.bin .lss (t 5) (n 2)),v 7 6]⟩,⟨true,[],[g 8 7 false (.val (t 0)),g 9 7 false (.nilcheck (t 8)),g 10 7 false (.faddr (t 9) 1),g 11 7 false (.load none (t 10)),g 12 7 false (.val (t 0)),g 13 7 false (.nilcheck (t 12)),g 14 7 false (.faddr (t 13) 0),g 15 7 false (.load none (t 14)),g 16 7 false (.len .sl (t 15))]⟩,⟨false,[],[g 17 7 false (.bin .geq (t 11) (t 16)),o 18 (.pick (t 7) Y (t 17))]⟩]) [0,1,18])
 (.after (.cond (t 18) (.seq (R [4] [o 4 (.val (n 0))])
 (.live [4] (.ret))) (.skip)) [0,1]))
 (.seq (R [0,1] [v 19 0,v 20 0,o 21 (.nilcheck (t 20)),o 22 (.faddr (t 21) 1),o 23 (.load none (t 22)),o 24 (.bin .add (t 23) (n 1)),o 25 (.nilcheck (t 19)),o 26 (.faddr (t 25) 1),u (.store 1 (t 26) (t 24))])
 (.seq (.after (.region [⟨true,[],[v 27 0,o 28 (.nilcheck (t 27)),o 29 (.faddr (t 28) 0),o 30 (.load none (t 29)),v 31 0,o 32 (.nilcheck (t 31)),o 33 (.faddr (t 32) 1),o 34 (.load none (t 33)),o 35 (.bin .sub (t 34) (n 1)),o 36 (.iaddr 1 (t 30) (t 35)),o 37 (.load none (t 36)),o 38 (.conv (.int .i64) (t 37)),v 39 1]⟩,⟨false,[],[o 40 (.bin .rem (t 38) (t 39)),v 4 40]⟩]) [4])
 (.live [4] (.ret))))),none⟩
def code150:AFunc:=⟨false,false,3,18,[],
 R [] [v 6 0,v 7 0,o 8 (.nilcheck (t 7)),o 9 (.faddr (t 8) 1),o 10 (.load none (t 9)),v 11 1,v 12 2,o 13 (.build [.int .u8 0,.int .i64 0,.int .i64 0,.str [],.str [],.str [],.str []] [(0,1,t 11),(1,1,t 12)]),o 14 (.mkslice 7 1 [.int .u8 0,.int .i64 0,.int .i64 0,.str [],.str [],.str [],.str []] [(0,7,t 13)]),o 15 (.append 7 88 (t 10) (t 14)),o 16 (.nilcheck (t 6)),o 17 (.faddr (t 16) 1),u (.store 1 (t 17) (t 15))],none⟩
def code151B0:ACode :=
 .seq (.seq (R [0,1,29,40] [o 41 (.bin .eql (t 29) (n 0)),v 40 41])
 (.after (.cond (t 40) (.skip) (R [0,1,29,40] [o 42 (.bin .eql (t 29) (n 1)),v 40 42])) [0,1,29,40]))
 (.after (.cond (t 40) (R [] [v 43 0,v 44 0,o 45 (.nilcheck (t 44)),o 46 (.faddr (t 45) 0),o 47 (.load none (t 46)),o 48 (.callg 102 [t 47,n 3]),o 49 (.callg 150 [t 43,.const (.int .u8 21),t 48])]) (.seq (R [0,1,29,50] [o 51 (.bin .eql (t 29) (n 2)),v 50 51])
 (.after (.cond (t 50) (R [] [v 52 0,v 53 0,o 54 (.nilcheck (t 53)),o 55 (.faddr (t 54) 0),o 56 (.load none (t 55)),o 57 (.callg 102 [t 56,n 256]),o 58 (.bin .sub (t 57) (n 100)),o 59 (.callg 153 [t 52,t 58])]) (.seq (R [0,1,29,60] [o 61 (.bin .eql (t 29) (n 3)),v 60 61])
 (.after (.cond (t 60) (R [] [v 62 0,o 63 (.callg 154 [t 62,.const (.int .u8 178),.const (.str [77,97,105,110]),.const (.str [115]),.const (.str [73])])]) (.seq (.seq (R [0,1,29,64] [o 65 (.bin .eql (t 29) (n 4)),v 64 65])
 (.after (.cond (t 64) (.skip) (.seq (R [0,1,29,64] [o 66 (.bin .eql (t 29) (n 5)),v 64 66])
 (.after (.cond (t 64) (.skip) (.seq (R [0,1,29,64] [o 67 (.bin .eql (t 29) (n 6)),v 64 67])
 (.after (.cond (t 64) (.skip) (R [0,1,29,64] [o 68 (.bin .eql (t 29) (n 7)),v 64 68])) [0,1,29,64]))) [0,1,29,64]))) [0,1,29,64]))
 (.after (.cond (t 64) (.seq (R [0,1] [v 69 0,v 70 1,o 71 (.bin .sub (t 70) (n 1)),o 72 (.callg 151 [t 69,t 71])])
 (.seq (R [0] [v 73 0,v 74 1,o 75 (.bin .sub (t 74) (n 1)),o 76 (.callg 151 [t 73,t 75])])
 (R [] [v 77 0,o 78 (.mkslice 1 10 [.int .u8 0,.int .u8 0,.int .u8 0,.int .u8 0,.int .u8 0,.int .u8 0,.int .u8 0,.int .u8 0,.int .u8 0,.int .u8 0] [(0,1,.const (.int .u8 96)),(1,1,.const (.int .u8 100)),(2,1,.const (.int .u8 104)),(3,1,.const (.int .u8 108)),(4,1,.const (.int .u8 126)),(5,1,.const (.int .u8 130)),(6,1,.const (.int .u8 120)),(7,1,.const (.int .u8 112)),(8,1,.const (.int .u8 128)),(9,1,.const (.int .u8 124))]),v 79 0,o 80 (.nilcheck (t 79)),o 81 (.faddr (t 80) 0),o 82 (.load none (t 81)),o 83 (.callg 102 [t 82,n 10]),o 84 (.iaddr 1 (t 78) (t 83)),o 85 (.load none (t 84)),o 86 (.callg 150 [t 77,t 85,n 0])]))) (.seq (R [0,1,29,87] [o 88 (.bin .eql (t 29) (n 8)),v 87 88])
 (.after (.cond (t 87) (.seq (R [0] [v 89 0,v 90 1,o 91 (.bin .sub (t 90) (n 1)),o 92 (.callg 183 [t 89,t 91])])
 (R [] [v 93 0,o 94 (.callg 150 [t 93,.const (.int .u8 136),n 0])])) (.seq (R [0,1,29,95] [o 96 (.bin .eql (t 29) (n 9)),v 95 96])
 (.after (.cond (t 95) (.seq (R [0,1] [v 97 0,o 98 (.callg 150 [t 97,.const (.int .u8 25),n 6])])
 (.seq (R [0] [v 99 0,v 100 1,o 101 (.bin .sub (t 100) (n 1)),o 102 (.callg 151 [t 99,t 101])])
 (R [] [v 103 0,o 104 (.callg 150 [t 103,.const (.int .u8 46),n 0])]))) (.seq (R [0,1,29,105] [o 106 (.bin .eql (t 29) (n 10)),v 105 106])
 (.after (.cond (t 105) (.seq (R [0] [v 107 0,o 108 (.callg 150 [t 107,.const (.int .u8 25),n 5])])
 (R [] [v 109 0,o 110 (.callg 154 [t 109,.const (.int .u8 180),.const (.str [65]),.const (.str [102]),.const (.str [73])])])) (.seq (R [0,1,29,111] [o 112 (.bin .eql (t 29) (n 11)),v 111 112])
 (.after (.cond (t 111) (.seq (R [0,1] [v 113 0,o 114 (.callg 150 [t 113,.const (.int .u8 25),n 5])])
 (.seq (R [0] [v 115 0,v 116 1,o 117 (.bin .sub (t 116) (n 1)),o 118 (.callg 151 [t 115,t 117])])
 (R [] [v 119 0,o 120 (.callg 154 [t 119,.const (.int .u8 182),.const (.str [65]),.const (.str [118]),.const (.str [40,73,41,73])])]))) (.seq (R [0,1,29,121] [o 122 (.bin .eql (t 29) (n 12)),v 121 122])
 (.after (.cond (t 121) (.seq (R [0] [v 123 0,v 124 1,o 125 (.bin .sub (t 124) (n 1)),o 126 (.callg 151 [t 123,t 125])])
 (R [] [v 127 0,o 128 (.callg 154 [t 127,.const (.int .u8 184),.const (.str [77,97,105,110]),.const (.str [104,101,108,112]),.const (.str [40,73,41,73])])])) (.seq (R [0,1,29,129] [o 130 (.bin .eql (t 29) (n 13)),v 129 130])
 (.after (.cond (t 129) (.seq (R [0] [v 131 0,v 132 0,o 133 (.nilcheck (t 132)),o 134 (.faddr (t 133) 0),o 135 (.load none (t 134)),o 136 (.callg 102 [t 135,n 2]),o 137 (.bin .add (n 6) (t 136)),o 138 (.callg 150 [t 131,.const (.int .u8 25),t 137])])
 (R [] [v 139 0,o 140 (.callg 150 [t 139,.const (.int .u8 190),n 0])])) (.seq (R [0,1,141] [o 142 (.bin .eql (t 29) (n 14)),v 141 142])
 (.after (.cond (t 141) (.seq (R [0] [v 143 0,o 144 (.callg 150 [t 143,.const (.int .u8 25),n 5])])
 (R [] [v 145 0,v 146 0,o 147 (.nilcheck (t 146)),o 148 (.faddr (t 147) 1),o 149 (.load none (t 148)),o 150 (.build [.int .u8 0,.int .i64 0,.int .i64 0,.str [],.str [],.str [],.str []] [(0,1,.const (.int .u8 193)),(3,1,.const (.str [66]))]),o 151 (.mkslice 7 1 [.int .u8 0,.int .i64 0,.int .i64 0,.str [],.str [],.str [],.str []] [(0,7,t 150)]),o 152 (.append 7 88 (t 149) (t 151)),o 153 (.nilcheck (t 145)),o 154 (.faddr (t 153) 1),u (.store 1 (t 154) (t 152))])) (.seq (R [0,1] [v 30 0,v 31 1,o 32 (.bin .sub (t 31) (n 1)),o 33 (.callg 183 [t 30,t 32])])
 (.seq (R [0] [v 34 0,v 35 1,o 36 (.bin .sub (t 35) (n 1)),o 37 (.callg 183 [t 34,t 36])])
 (R [] [v 38 0,o 39 (.callg 150 [t 38,.const (.int .u8 148),n 0])])))) []))) []))) []))) []))) []))) []))) []))) []))) []))) []))) [])
def code151:AFunc:=⟨false,false,2,155,[],
 .seq (R [0,1] [v 5 0,v 6 0,o 7 (.nilcheck (t 6)),o 8 (.faddr (t 7) 5),o 9 (.load none (t 8)),o 10 (.bin .sub (t 9) (n 1)),o 11 (.nilcheck (t 5)),o 12 (.faddr (t 11) 5),u (.store 1 (t 12) (t 10))])
 (.seq (R [0,1,4] [v 13 0,o 14 (.nilcheck (t 13)),o 15 (.faddr (t 14) 0),o 16 (.load none (t 15)),o 17 (.callg 102 [t 16,n 16]),v 4 17])
 (.seq (.seq (R [0,1,4,26] [v 18 1,o 19 (.bin .leq (t 18) (n 0)),v 20 19,g 21 20 false (.val (t 0)),g 22 20 false (.nilcheck (t 21)),g 23 20 false (.faddr (t 22) 5),g 24 20 false (.load none (t 23)),g 25 20 false (.bin .leq (t 24) (n 0)),o 26 (.pick (t 20) Y (t 25))])
 (.after (.cond (t 26) (R [0,1,4] [v 27 4,o 28 (.bin .rem (t 27) (n 4)),v 4 28]) (.skip)) [0,1,4]))
 (.seq (R [0,1,29] [v 29 4])
 (.after (.block 0 code151B0) [])))),none⟩
def code152R0:ACode :=
 .after (.region [⟨true,[0,0,2,6,14,0,32,96,224,480,0,1024,3072,7168,16352,32736,65504,131040,262142],[v 17 0,v 18 0,o 19 (.nilcheck (t 18)),o 20 (.faddr (t 19) 1),o 21 (.load none (t 20)),v 22 0,o 23 (.nilcheck (t 22)),o 24 (.faddr (t 23) 0),o 25 (.load none (t 24)),o 26 (.callg 102 [t 25,n 3]),v 27 0,o 28 (.nilcheck (t 27)),o 29 (.faddr (t 28) 0),o 30 (.load none (t 29)),o 31 (.callg 102 [t 30,n 9]),o 32 (.bin .sub (t 31) (n 4)),o 33 (.build [.int .u8 0,.int .i64 0,.int .i64 0,.str [],.str [],.str [],.str []] [(0,1,.const (.int .u8 132)),(1,1,t 26),(2,1,t 32)]),o 34 (.mkslice 7 1 [.int .u8 0,.int .i64 0,.int .i64 0,.str [],.str [],.str [],.str []] [(0,7,t 33)]),o 35 (.append 7 88 (t 21) (t 34))]⟩,⟨false,[],[o 36 (.nilcheck (t 17)),o 37 (.faddr (t 36) 1),u (.store 1 (t 37) (t 35))]⟩]) []
def code152B0:ACode :=
 .seq (R [0,2,38] [v 39 0,o 40 (.nilcheck (t 39)),o 41 (.faddr (t 40) 5),o 42 (.load none (t 41)),o 43 (.bin .leq (t 42) (n 0)),v 44 43,g 45 44 false (.val (t 2)),g 46 44 false (.bin .lss (t 45) (n 2)),o 47 (.pick (t 44) Y (t 46)),v 38 47])
 (.after (.cond (t 38) (.seq (R [0] [v 48 0,o 49 (.callg 151 [t 48,n 2])])
 (R [] [v 50 0,v 51 0,o 52 (.nilcheck (t 51)),o 53 (.faddr (t 52) 0),o 54 (.load none (t 53)),o 55 (.callg 102 [t 54,n 2]),o 56 (.bin .add (n 1) (t 55)),o 57 (.callg 150 [t 50,.const (.int .u8 54),t 56])])) (.seq (R [0,2,58] [v 59 2,o 60 (.bin .eql (t 59) (n 2)),v 58 60])
 (.after (.cond (t 58) (.seq (R [0] [v 61 0,o 62 (.callg 151 [t 61,n 2])])
 (R [] [v 63 0,o 64 (.callg 154 [t 63,.const (.int .u8 184),.const (.str [115,121,115]),.const (.str [112,114,105,110,116]),.const (.str [40,73,41,86])])])) (.seq (R [0,2,65] [v 66 2,o 67 (.bin .eql (t 66) (n 3)),v 65 67])
 (.after (.cond (t 65) (.seq (R [0] [v 68 0,o 69 (.callg 183 [t 68,n 2])])
 (R [] [v 70 0,o 71 (.callg 150 [t 70,.const (.int .u8 55),n 3])])) (.seq (R [0,2,72] [v 73 2,o 74 (.bin .eql (t 73) (n 4)),v 72 74])
 (.after (.cond (t 72) (.seq (R [0] [v 75 0,o 76 (.callg 184 [t 75])])
 (R [] [v 77 0,o 78 (.callg 150 [t 77,.const (.int .u8 58),n 5])])) (.seq (R [0,2,79] [v 80 2,o 81 (.bin .eql (t 80) (n 5)),v 79 81])
 (.after (.cond (t 79) (.seq (R [0] [v 82 0,o 83 (.callg 150 [t 82,.const (.int .u8 25),n 5])])
 (.seq (R [0] [v 84 0,o 85 (.callg 151 [t 84,n 1])])
 (R [] [v 86 0,o 87 (.callg 154 [t 86,.const (.int .u8 181),.const (.str [65]),.const (.str [102]),.const (.str [73])])]))) (.seq (R [0,2,88] [v 89 2,o 90 (.bin .eql (t 89) (n 6)),v 88 90])
 (.after (.cond (t 88) (.seq (R [0] [v 91 0,o 92 (.callg 151 [t 91,n 1])])
 (R [] [v 93 0,o 94 (.callg 154 [t 93,.const (.int .u8 179),.const (.str [77,97,105,110]),.const (.str [115]),.const (.str [73])])])) (.seq (R [0,2,95] [v 96 2,o 97 (.bin .eql (t 96) (n 7)),v 95 97])
 (.after (.cond (t 95) (.seq (R [0] [v 98 0,o 99 (.callg 151 [t 98,n 1])])
 (.seq (R [0,3] [v 100 0,o 101 (.nilcheck (t 100)),o 102 (.faddr (t 101) 0),o 103 (.load none (t 102)),o 104 (.callg 102 [t 103,n 2]),v 3 104])
 (.seq (R [0,3] [v 105 0,v 106 3,o 107 (.bin .mul (n 2) (t 106)),o 108 (.bin .sub (n 10) (t 107)),o 109 (.callg 150 [t 105,.const (.int .u8 188),t 108])])
 (R [] [v 110 0,v 111 3,o 112 (.bin .add (n 6) (t 111)),o 113 (.callg 150 [t 110,.const (.int .u8 58),t 112])])))) (.seq (R [0,2,114] [v 115 2,o 116 (.bin .eql (t 115) (n 8)),v 114 116])
 (.after (.cond (t 114) (.seq (R [0] [v 117 0,o 118 (.callg 150 [t 117,.const (.int .u8 25),n 6])])
 (.seq (R [0] [v 119 0,o 120 (.callg 151 [t 119,n 1])])
 (.seq (R [0] [v 121 0,o 122 (.callg 151 [t 121,n 1])])
 (R [] [v 123 0,o 124 (.callg 150 [t 123,.const (.int .u8 79),n 0])])))) (.seq (R [0,2,125] [v 126 2,o 127 (.bin .eql (t 126) (n 9)),v 128 127,g 129 128 true (.val (t 0)),g 130 128 true (.nilcheck (t 129)),g 131 128 true (.faddr (t 130) 4),g 132 128 true (.load none (t 131)),g 133 128 true (.bin .lss (t 132) (n 3)),o 134 (.pick (t 128) (t 133) F),v 125 134])
 (.after (.cond (t 125) (R [] [v 135 0,o 136 (.callg 185 [t 135])]) (.seq (R [0,2,137] [v 138 2,o 139 (.bin .eql (t 138) (n 10)),v 140 139,g 141 140 true (.val (t 0)),g 142 140 true (.nilcheck (t 141)),g 143 140 true (.faddr (t 142) 4),g 144 140 true (.load none (t 143)),g 145 140 true (.bin .lss (t 144) (n 3)),o 146 (.pick (t 140) (t 145) F),v 137 146])
 (.after (.cond (t 137) (R [] [v 147 0,o 148 (.callg 186 [t 147])]) (.seq (R [0,2,149] [v 150 2,o 151 (.bin .eql (t 150) (n 11)),v 152 151,g 153 152 true (.val (t 0)),g 154 152 true (.nilcheck (t 153)),g 155 152 true (.faddr (t 154) 4),g 156 152 true (.load none (t 155)),g 157 152 true (.bin .lss (t 156) (n 3)),o 158 (.pick (t 152) (t 157) F),v 149 158])
 (.after (.cond (t 149) (R [] [v 159 0,o 160 (.callg 187 [t 159])]) (.seq (R [0,2,161] [v 162 2,o 163 (.bin .eql (t 162) (n 12)),v 161 163])
 (.after (.cond (t 161) (R [] [v 164 0,o 165 (.callg 188 [t 164])]) (.seq (R [0,2,166] [v 167 2,o 168 (.bin .eql (t 167) (n 13)),v 166 168])
 (.after (.cond (t 166) (.seq (R [0] [v 169 0,v 170 0,o 171 (.nilcheck (t 170)),o 172 (.faddr (t 171) 1),o 173 (.load none (t 172)),o 174 (.build [.int .u8 0,.int .i64 0,.int .i64 0,.str [],.str [],.str [],.str []] [(0,1,.const (.int .u8 18)),(5,1,.const (.str [83])),(6,1,.const (.str [104,105]))]),o 175 (.mkslice 7 1 [.int .u8 0,.int .i64 0,.int .i64 0,.str [],.str [],.str [],.str []] [(0,7,t 174)]),o 176 (.append 7 88 (t 173) (t 175)),o 177 (.nilcheck (t 169)),o 178 (.faddr (t 177) 1),u (.store 1 (t 178) (t 176))])
 (R [] [v 179 0,o 180 (.callg 150 [t 179,.const (.int .u8 58),n 7])])) (.seq (R [0,181] [v 182 2,o 183 (.bin .eql (t 182) (n 14)),v 181 183])
 (.after (.cond (t 181) (.seq (R [0] [v 184 0,o 185 (.callg 150 [t 184,.const (.int .u8 25),n 7])])
 (R [] [v 186 0,o 187 (.callg 154 [t 186,.const (.int .u8 184),.const (.str [115,121,115]),.const (.str [112,114,105,110,116,84,101,120,116]),.const (.str [40,91,66,41,86])])])) (code152R0)) []))) []))) []))) []))) []))) []))) []))) []))) []))) []))) []))) []))) []))) [])
def code152:AFunc:=⟨false,false,1,188,[],
 .seq (R [0] [v 4 0,v 5 0,o 6 (.nilcheck (t 5)),o 7 (.faddr (t 6) 5),o 8 (.load none (t 7)),o 9 (.bin .sub (t 8) (n 1)),o 10 (.nilcheck (t 4)),o 11 (.faddr (t 10) 5),u (.store 1 (t 11) (t 9))])
 (.seq (R [0,2] [v 12 0,o 13 (.nilcheck (t 12)),o 14 (.faddr (t 13) 0),o 15 (.load none (t 14)),o 16 (.callg 102 [t 15,n 16]),v 2 16])
 (.after (.block 0 code152B0) [])),none⟩
def code153:AFunc:=⟨false,false,2,47,[],
 .after (.block 0 (.seq (R [0,1,15] [v 16 1,o 17 (.bin .geq (t 16) (.const (.int .i64 (-1)))),v 18 17,g 19 18 true (.val (t 1)),g 20 18 true (.bin .leq (t 19) (n 5)),o 21 (.pick (t 18) (t 20) F),v 15 21])
 (.after (.cond (t 15) (R [] [v 22 0,v 23 1,o 24 (.bin .add (n 3) (t 23)),o 25 (.conv (.int .u8) (t 24)),o 26 (.callg 150 [t 22,t 25,n 0])]) (.seq (R [0,1,27] [v 28 1,o 29 (.bin .geq (t 28) (.const (.int .i64 (-128)))),v 30 29,g 31 30 true (.val (t 1)),g 32 30 true (.bin .lss (t 31) (n 128)),o 33 (.pick (t 30) (t 32) F),v 27 33])
 (.after (.cond (t 27) (R [] [v 34 0,v 35 1,o 36 (.callg 150 [t 34,.const (.int .u8 16),t 35])]) (.seq (R [0,1,37] [v 38 1,o 39 (.bin .geq (t 38) (.const (.int .i64 (-32768)))),v 40 39,g 41 40 true (.val (t 1)),g 42 40 true (.bin .lss (t 41) (n 32768)),o 43 (.pick (t 40) (t 42) F),v 37 43])
 (.after (.cond (t 37) (R [] [v 44 0,v 45 1,o 46 (.callg 150 [t 44,.const (.int .u8 17),t 45])]) (R [] [v 4 0,v 5 0,o 6 (.nilcheck (t 5)),o 7 (.faddr (t 6) 1),o 8 (.load none (t 7)),v 9 1,o 10 (.build [.int .u8 0,.int .i64 0,.int .i64 0,.str [],.str [],.str [],.str []] [(0,1,.const (.int .u8 18)),(5,1,.const (.str [73])),(1,1,t 9)]),o 11 (.mkslice 7 1 [.int .u8 0,.int .i64 0,.int .i64 0,.str [],.str [],.str [],.str []] [(0,7,t 10)]),o 12 (.append 7 88 (t 8) (t 11)),o 13 (.nilcheck (t 4)),o 14 (.faddr (t 13) 1),u (.store 1 (t 14) (t 12))])) []))) []))) []))) [],none⟩
def code154:AFunc:=⟨false,false,5,24,[],
 R [] [v 10 0,v 11 0,o 12 (.nilcheck (t 11)),o 13 (.faddr (t 12) 1),o 14 (.load none (t 13)),v 15 1,v 16 2,v 17 3,v 18 4,o 19 (.build [.int .u8 0,.int .i64 0,.int .i64 0,.str [],.str [],.str [],.str []] [(0,1,t 15),(3,1,t 16),(4,1,t 17),(5,1,t 18)]),o 20 (.mkslice 7 1 [.int .u8 0,.int .i64 0,.int .i64 0,.str [],.str [],.str [],.str []] [(0,7,t 19)]),o 21 (.append 7 88 (t 14) (t 20)),o 22 (.nilcheck (t 10)),o 23 (.faddr (t 22) 1),u (.store 1 (t 23) (t 21))],none⟩
def code183B0:ACode :=
 .seq (R [0,1,4,16] [v 17 1,o 18 (.bin .gtr (t 17) (n 0)),v 19 18,g 20 19 true (.val (t 4)),g 21 19 true (.bin .lss (t 20) (n 2)),o 22 (.pick (t 19) (t 21) F),v 16 22])
 (.after (.cond (t 16) (.seq (R [0,1] [v 23 0,v 24 1,o 25 (.bin .sub (t 24) (n 1)),o 26 (.callg 183 [t 23,t 25])])
 (.seq (R [0] [v 27 0,v 28 1,o 29 (.bin .sub (t 28) (n 1)),o 30 (.callg 183 [t 27,t 29])])
 (R [] [v 31 0,o 32 (.mkslice 1 8 [.int .u8 0,.int .u8 0,.int .u8 0,.int .u8 0,.int .u8 0,.int .u8 0,.int .u8 0,.int .u8 0] [(0,1,.const (.int .u8 97)),(1,1,.const (.int .u8 101)),(2,1,.const (.int .u8 105)),(3,1,.const (.int .u8 109)),(4,1,.const (.int .u8 127)),(5,1,.const (.int .u8 131)),(6,1,.const (.int .u8 113)),(7,1,.const (.int .u8 129))]),v 33 0,o 34 (.nilcheck (t 33)),o 35 (.faddr (t 34) 0),o 36 (.load none (t 35)),o 37 (.callg 102 [t 36,n 8]),o 38 (.iaddr 1 (t 32) (t 37)),o 39 (.load none (t 38)),o 40 (.callg 150 [t 31,t 39,n 0])]))) (.seq (R [0,1,4,41] [v 42 1,o 43 (.bin .gtr (t 42) (n 0)),v 44 43,g 45 44 true (.val (t 4)),g 46 44 true (.bin .eql (t 45) (n 2)),o 47 (.pick (t 44) (t 46) F),v 41 47])
 (.after (.cond (t 41) (.seq (R [0,1] [v 48 0,v 49 1,o 50 (.bin .sub (t 49) (n 1)),o 51 (.callg 183 [t 48,t 50])])
 (.seq (R [0] [v 52 0,v 53 1,o 54 (.bin .sub (t 53) (n 1)),o 55 (.callg 151 [t 52,t 54])])
 (R [] [v 56 0,o 57 (.mkslice 1 3 [.int .u8 0,.int .u8 0,.int .u8 0] [(0,1,.const (.int .u8 121)),(1,1,.const (.int .u8 123)),(2,1,.const (.int .u8 125))]),v 58 0,o 59 (.nilcheck (t 58)),o 60 (.faddr (t 59) 0),o 61 (.load none (t 60)),o 62 (.callg 102 [t 61,n 3]),o 63 (.iaddr 1 (t 57) (t 62)),o 64 (.load none (t 63)),o 65 (.callg 150 [t 56,t 64,n 0])]))) (.seq (R [0,1,4,66] [v 67 4,o 68 (.bin .eql (t 67) (n 3)),v 66 68])
 (.after (.cond (t 66) (R [] [v 69 0,o 70 (.callg 150 [t 69,.const (.int .u8 22),n 3])]) (.seq (R [0,1,71] [v 72 4,o 73 (.bin .eql (t 72) (n 4)),v 71 73])
 (.after (.cond (t 71) (.after (.region [⟨true,[0,0,2,6,14,0,32,96,224,480,992,2016,4064,8160,16382],[v 74 0,v 75 0,o 76 (.nilcheck (t 75)),o 77 (.faddr (t 76) 1),o 78 (.load none (t 77)),v 79 0,o 80 (.nilcheck (t 79)),o 81 (.faddr (t 80) 0),o 82 (.load none (t 81)),o 83 (.callg 102 [t 82,n 256]),o 84 (.bin .shl (t 83) (.const (.int .u64 40))),o 85 (.bin .sub (t 84) (n 5)),o 86 (.build [.int .u8 0,.int .i64 0,.int .i64 0,.str [],.str [],.str [],.str []] [(0,1,.const (.int .u8 20)),(5,1,.const (.str [74])),(1,1,t 85)]),o 87 (.mkslice 7 1 [.int .u8 0,.int .i64 0,.int .i64 0,.str [],.str [],.str [],.str []] [(0,7,t 86)]),o 88 (.append 7 88 (t 78) (t 87))]⟩,⟨false,[],[o 89 (.nilcheck (t 74)),o 90 (.faddr (t 89) 1),u (.store 1 (t 90) (t 88))]⟩]) []) (.seq (R [0] [v 10 0,v 11 1,o 12 (.bin .sub (t 11) (n 1)),o 13 (.callg 151 [t 10,t 12])])
 (R [] [v 14 0,o 15 (.callg 150 [t 14,.const (.int .u8 133),n 0])]))) []))) []))) []))) [])
def code183:AFunc:=⟨false,false,2,91,[],
 .seq (R [0,1,4] [v 5 0,o 6 (.nilcheck (t 5)),o 7 (.faddr (t 6) 0),o 8 (.load none (t 7)),o 9 (.callg 102 [t 8,n 6]),v 4 9])
 (.after (.block 0 code183B0) []),none⟩
def code184B0:ACode :=
 .seq (R [0,6,17] [o 18 (.bin .eql (t 6) (n 0)),v 17 18])
 (.after (.cond (t 17) (R [] [v 19 0,o 20 (.callg 150 [t 19,.const (.int .u8 1),n 0])]) (.seq (R [0,6,21] [o 22 (.bin .eql (t 6) (n 1)),v 21 22])
 (.after (.cond (t 21) (R [] [v 23 0,v 24 0,o 25 (.nilcheck (t 24)),o 26 (.faddr (t 25) 1),o 27 (.load none (t 26)),o 28 (.build [.int .u8 0,.int .i64 0,.int .i64 0,.str [],.str [],.str [],.str []] [(0,1,.const (.int .u8 187)),(3,1,.const (.str [66]))]),o 29 (.mkslice 7 1 [.int .u8 0,.int .i64 0,.int .i64 0,.str [],.str [],.str [],.str []] [(0,7,t 28)]),o 30 (.append 7 88 (t 27) (t 29)),o 31 (.nilcheck (t 23)),o 32 (.faddr (t 31) 1),u (.store 1 (t 32) (t 30))]) (.seq (R [0,33] [o 34 (.bin .eql (t 6) (n 2)),v 33 34])
 (.after (.cond (t 33) (.seq (R [0] [v 35 0,o 36 (.callg 150 [t 35,.const (.int .u8 25),n 5])])
 (R [] [v 37 0,v 38 0,o 39 (.nilcheck (t 38)),o 40 (.faddr (t 39) 1),o 41 (.load none (t 40)),o 42 (.build [.int .u8 0,.int .i64 0,.int .i64 0,.str [],.str [],.str [],.str []] [(0,1,.const (.int .u8 192)),(3,1,.const (.str [66]))]),o 43 (.mkslice 7 1 [.int .u8 0,.int .i64 0,.int .i64 0,.str [],.str [],.str [],.str []] [(0,7,t 42)]),o 44 (.append 7 88 (t 41) (t 43)),o 45 (.nilcheck (t 37)),o 46 (.faddr (t 45) 1),u (.store 1 (t 46) (t 44))])) (R [] [v 7 0,v 8 0,o 9 (.nilcheck (t 8)),o 10 (.faddr (t 9) 1),o 11 (.load none (t 10)),o 12 (.build [.int .u8 0,.int .i64 0,.int .i64 0,.str [],.str [],.str [],.str []] [(0,1,.const (.int .u8 187)),(3,1,.const (.str [65]))]),o 13 (.mkslice 7 1 [.int .u8 0,.int .i64 0,.int .i64 0,.str [],.str [],.str [],.str []] [(0,7,t 12)]),o 14 (.append 7 88 (t 11) (t 13)),o 15 (.nilcheck (t 7)),o 16 (.faddr (t 15) 1),u (.store 1 (t 16) (t 14))])) []))) []))) [])
def code184:AFunc:=⟨false,false,1,47,[],
 .seq (R [0,6] [v 2 0,o 3 (.nilcheck (t 2)),o 4 (.faddr (t 3) 0),o 5 (.load none (t 4)),o 6 (.callg 102 [t 5,n 5])])
 (.after (.block 0 code184B0) []),none⟩
def code185R0:ACode :=
 .after (.region [⟨true,[0,1,3,7,0,0,32],[v 20 0,o 21 (.nilcheck (t 20)),o 22 (.faddr (t 21) 1),o 23 (.load none (t 22)),v 24 2,v 25 0,o 26 (.callg 100208 [t 25,.const (.slice none 0 (some 0))])]⟩,⟨false,[],[o 27 (.iaddr 7 (t 23) (t 24)),o 28 (.faddr (t 27) 1),u (.store 1 (t 28) (t 26))]⟩]) [0,3]
def code185R1:ACode :=
 .after (.region [⟨true,[0,1,3,7,0,0,32],[v 31 0,o 32 (.nilcheck (t 31)),o 33 (.faddr (t 32) 1),o 34 (.load none (t 33)),v 35 3,v 36 0,o 37 (.callg 100208 [t 36,.const (.slice none 0 (some 0))])]⟩,⟨false,[],[o 38 (.iaddr 7 (t 34) (t 35)),o 39 (.faddr (t 38) 1),u (.store 1 (t 39) (t 37))]⟩]) []
def code185:AFunc:=⟨false,false,1,40,[],
 .seq (R [0] [v 4 0,o 5 (.callg 151 [t 4,n 1])])
 (.seq (R [0,2] [v 6 0,o 7 (.mkslice 1 6 [.int .u8 0,.int .u8 0,.int .u8 0,.int .u8 0,.int .u8 0,.int .u8 0] [(0,1,.const (.int .u8 153)),(1,1,.const (.int .u8 154)),(2,1,.const (.int .u8 155)),(3,1,.const (.int .u8 156)),(4,1,.const (.int .u8 157)),(5,1,.const (.int .u8 158))]),v 8 0,o 9 (.nilcheck (t 8)),o 10 (.faddr (t 9) 0),o 11 (.load none (t 10)),o 12 (.callg 102 [t 11,n 6]),o 13 (.iaddr 1 (t 7) (t 12)),o 14 (.load none (t 13)),o 15 (.callg 210 [t 6,t 14]),v 2 15])
 (.seq (R [0,2] [v 16 0,o 17 (.callg 209 [t 16])])
 (.seq (R [0,2,3] [v 18 0,o 19 (.callg 210 [t 18,.const (.int .u8 167)]),v 3 19])
 (.seq (code185R0)
 (.seq (R [0,3] [v 29 0,o 30 (.callg 209 [t 29])])
 (code185R1)))))),none⟩
def code186R0:ACode :=
 .after (.region [⟨true,[0,1,3,7,0,0,32],[v 34 0,o 35 (.nilcheck (t 34)),o 36 (.faddr (t 35) 1),o 37 (.load none (t 36)),v 38 3,v 39 0,o 40 (.callg 100208 [t 39,.const (.slice none 0 (some 0))])]⟩,⟨false,[],[o 41 (.iaddr 7 (t 37) (t 38)),o 42 (.faddr (t 41) 1),u (.store 1 (t 42) (t 40))]⟩]) []
def code186:AFunc:=⟨false,false,1,43,[],
 .seq (R [0] [v 4 0,v 5 0,o 6 (.nilcheck (t 5)),o 7 (.faddr (t 6) 0),o 8 (.load none (t 7)),o 9 (.callg 102 [t 8,n 5]),o 10 (.callg 153 [t 4,t 9])])
 (.seq (R [0] [v 11 0,o 12 (.callg 150 [t 11,.const (.int .u8 54),n 2])])
 (.seq (R [0,2] [v 13 0,o 14 (.callg 100208 [t 13,.const (.slice none 0 (some 0))]),v 2 14])
 (.seq (R [0,2] [v 15 0,o 16 (.callg 150 [t 15,.const (.int .u8 21),n 2])])
 (.seq (R [0,2,3] [v 17 0,o 18 (.callg 210 [t 17,.const (.int .u8 158)]),v 3 18])
 (.seq (R [0,2,3] [v 19 0,o 20 (.callg 209 [t 19])])
 (.seq (R [0,2,3] [v 21 0,v 22 0,o 23 (.nilcheck (t 22)),o 24 (.faddr (t 23) 1),o 25 (.load none (t 24)),o 26 (.build [.int .u8 0,.int .i64 0,.int .i64 0,.str [],.str [],.str [],.str []] [(0,1,.const (.int .u8 132)),(1,1,n 2),(2,1,.const (.int .i64 (-1)))]),o 27 (.mkslice 7 1 [.int .u8 0,.int .i64 0,.int .i64 0,.str [],.str [],.str [],.str []] [(0,7,t 26)]),o 28 (.append 7 88 (t 25) (t 27)),o 29 (.nilcheck (t 21)),o 30 (.faddr (t 29) 1),u (.store 1 (t 30) (t 28))])
 (.seq (R [0,3] [v 31 0,v 32 2,o 33 (.callg 150 [t 31,.const (.int .u8 167),t 32])])
 (code186R0)))))))),none⟩
def code187T0:ACode :=
 .seq (.seq (R [0,2,3,4,5,7,8,77] [v 76 3,o 77 (.bin .geq (t 76) (n 0))])
 (.after (.cond (t 77) (R [0,2,4,5,7] [v 78 0,o 79 (.nilcheck (t 78)),o 80 (.faddr (t 79) 1),o 81 (.load none (t 80)),v 82 3,v 83 8,o 84 (.iaddr 7 (t 81) (t 82)),o 85 (.faddr (t 84) 1),u (.store 1 (t 85) (t 83))]) (.skip)) [0,2,4,5,7]))
 (R [] [v 86 0,v 87 0,o 88 (.nilcheck (t 87)),o 89 (.faddr (t 88) 2),o 90 (.load none (t 89)),v 91 2,v 92 4,v 93 7,v 94 5,o 95 (.build [.int .i64 0,.int .i64 0,.int .i64 0,.str []] [(0,1,t 91),(1,1,t 92),(2,1,t 93),(3,1,t 94)]),o 96 (.mkslice 4 1 [.int .i64 0,.int .i64 0,.int .i64 0,.str []] [(0,4,t 95)]),o 97 (.append 4 40 (t 90) (t 96)),o 98 (.nilcheck (t 86)),o 99 (.faddr (t 98) 2),u (.store 1 (t 99) (t 97))])
def code187T1:ACode :=
 .seq (R [0,2,3,4,5] [o 53 (.mkslice 1 5 [.str [],.str [],.str [],.str [],.str []] [(0,1,.const (.str [])),(1,1,.const (.str [84,104,114,111,119,97,98,108,101])),(2,1,.const (.str [77,97,116,104,70,97,117,108,116])),(3,1,.const (.str [79,111,112,115])),(4,1,.const (.str [78,117,108,108,70,97,117,108,116]))]),v 54 0,o 55 (.nilcheck (t 54)),o 56 (.faddr (t 55) 0),o 57 (.load none (t 56)),o 58 (.callg 102 [t 57,n 5]),o 59 (.iaddr 1 (t 53) (t 58)),o 60 (.load none (t 59)),v 5 60])
 (.seq (R [0,2,3,4,5,6] [v 61 5,v 6 61])
 (.seq (.seq (R [0,2,3,4,5,6,63] [v 62 6,o 63 (.bin .eql (t 62) (.const (.str [])))])
 (.after (.cond (t 63) (R [0,2,3,4,5,6] [o 6 (.val (.const (.str [84,104,114,111,119,97,98,108,101])))]) (.skip)) [0,2,3,4,5,6]))
 (.seq (R [0,2,3,4,5,7] [v 64 0,v 65 6,o 66 (.bin .add (.const (.str [76])) (t 65)),o 67 (.bin .add (t 66) (.const (.str [59]))),o 68 (.mkslice 1 1 [.str []] [(0,1,t 67)]),o 69 (.callg 100208 [t 64,t 68]),v 7 69])
 (.seq (R [0,2,3,4,5,7] [v 70 0,o 71 (.callg 150 [t 70,.const (.int .u8 87),n 0])])
 (.seq (R [0,2,3,4,5,7] [v 72 0,o 73 (.callg 209 [t 72])])
 (.seq (R [0,2,3,4,5,7,8] [v 74 0,o 75 (.callg 100208 [t 74,.const (.slice none 0 (some 0))]),v 8 75])
 (code187T0)))))))
def code187T2:ACode :=
 .seq (R [0,2,3,4] [v 36 0,o 37 (.nilcheck (t 36)),o 38 (.faddr (t 37) 1),o 39 (.load none (t 38)),o 40 (.len .sl (t 39)),v 4 40])
 (.seq (.seq (R [0,2,3,4,50] [v 41 0,o 42 (.nilcheck (t 41)),o 43 (.faddr (t 42) 1),o 44 (.load none (t 43)),v 45 4,o 46 (.bin .sub (t 45) (n 1)),o 47 (.iaddr 7 (t 44) (t 46)),o 48 (.faddr (t 47) 0),o 49 (.load none (t 48)),o 50 (.bin .eql (t 49) (.const (.int .u8 0)))])
 (.after (.cond (t 50) (R [0,2,3,4] [v 51 0,o 52 (.callg 210 [t 51,.const (.int .u8 167)]),v 3 52]) (.skip)) [0,2,3,4]))
 (code187T1))
def code187:AFunc:=⟨false,false,1,100,[],
 .seq (R [0,2] [v 9 0,o 10 (.nilcheck (t 9)),o 11 (.faddr (t 10) 1),o 12 (.load none (t 11)),o 13 (.len .sl (t 12)),v 2 13])
 (.seq (R [0,2] [v 14 0,o 15 (.callg 209 [t 14])])
 (.seq (R [0,2,3] [o 3 (.val (.const (.int .i64 (-1))))])
 (.seq (.seq (R [0,2,3,21] [v 16 0,o 17 (.nilcheck (t 16)),o 18 (.faddr (t 17) 0),o 19 (.load none (t 18)),o 20 (.callg 102 [t 19,n 3]),o 21 (.bin .eql (t 20) (n 1))])
 (.after (.cond (t 21) (.seq (R [0,2,3] [v 22 0,v 23 0,o 24 (.nilcheck (t 23)),o 25 (.faddr (t 24) 1),o 26 (.load none (t 25)),o 27 (.build [.int .u8 0,.int .i64 0,.int .i64 0,.str [],.str [],.str [],.str []] [(0,1,.const (.int .u8 187)),(3,1,.const (.str [79,111,112,115]))]),o 28 (.mkslice 7 1 [.int .u8 0,.int .i64 0,.int .i64 0,.str [],.str [],.str [],.str []] [(0,7,t 27)]),o 29 (.append 7 88 (t 26) (t 28)),o 30 (.nilcheck (t 22)),o 31 (.faddr (t 30) 1),u (.store 1 (t 31) (t 29))])
 (R [0,2,3] [v 32 0,o 33 (.callg 150 [t 32,.const (.int .u8 191),n 0])])) (R [0,2,3] [v 34 0,o 35 (.callg 150 [t 34,.const (.int .u8 0),n 0])])) [0,2,3]))
 (code187T2)))),none⟩
def code188B0:ACode :=
 .seq (R [0,6,11] [o 12 (.bin .eql (t 6) (n 0)),v 11 12])
 (.after (.cond (t 11) (.seq (R [0] [v 13 0,o 14 (.callg 150 [t 13,.const (.int .u8 25),n 7])])
 (.seq (R [0] [v 15 0,o 16 (.callg 154 [t 15,.const (.int .u8 184),.const (.str [115,121,115]),.const (.str [97,100,100]),.const (.str [40,91,66,41,73])])])
 (R [] [v 17 0,o 18 (.callg 150 [t 17,.const (.int .u8 54),n 1])]))) (.seq (R [0,6,19] [o 20 (.bin .eql (t 6) (n 1)),v 19 20])
 (.after (.cond (t 19) (.seq (R [0] [v 21 0,o 22 (.callg 151 [t 21,n 1])])
 (.seq (R [0] [v 23 0,o 24 (.callg 154 [t 23,.const (.int .u8 184),.const (.str [115,121,115]),.const (.str [103,101,116]),.const (.str [40,73,41,91,66])])])
 (R [] [v 25 0,o 26 (.callg 150 [t 25,.const (.int .u8 58),n 7])]))) (.seq (R [0,27] [o 28 (.bin .eql (t 6) (n 2)),v 27 28])
 (.after (.cond (t 27) (.seq (R [0] [v 29 0,o 30 (.callg 151 [t 29,n 1])])
 (.seq (R [0] [v 31 0,o 32 (.callg 150 [t 31,.const (.int .u8 25),n 7])])
 (R [] [v 33 0,o 34 (.callg 154 [t 33,.const (.int .u8 184),.const (.str [115,121,115]),.const (.str [115,101,116]),.const (.str [40,73,91,66,41,86])])]))) (.seq (R [0] [v 7 0,o 8 (.callg 154 [t 7,.const (.int .u8 184),.const (.str [115,121,115]),.const (.str [99,111,117,110,116]),.const (.str [40,41,73])])])
 (R [] [v 9 0,o 10 (.callg 150 [t 9,.const (.int .u8 54),n 1])]))) []))) []))) [])
def code188:AFunc:=⟨false,false,1,35,[],
 .seq (R [0,6] [v 2 0,o 3 (.nilcheck (t 2)),o 4 (.faddr (t 3) 0),o 5 (.load none (t 4)),o 6 (.callg 102 [t 5,n 4])])
 (.after (.block 0 code188B0) []),none⟩
def code209L0:ACode :=
 .live [0,2] (.seq (.seq (R [0,2,18] [v 17 2,o 18 (.bin .gtr (t 17) (n 0))])
 (.after (.cond (t 18) (.skip) (.live [0] (.exit 0))) [0,2]))
 (.seq (.after (.block 1 (R [0,2] [v 21 0,o 22 (.callg 152 [t 21])])) [0,2])
 (R [0,2] [v 19 2,o 20 (.bin .sub (t 19) (n 1)),v 2 20])))
def code209:AFunc:=⟨false,false,1,31,[],
 .seq (R [0] [v 3 0,v 4 0,o 5 (.nilcheck (t 4)),o 6 (.faddr (t 5) 4),o 7 (.load none (t 6)),o 8 (.bin .add (t 7) (n 1)),o 9 (.nilcheck (t 3)),o 10 (.faddr (t 9) 4),u (.store 1 (t 10) (t 8))])
 (.seq (.seq (R [0,2] [v 11 0,o 12 (.nilcheck (t 11)),o 13 (.faddr (t 12) 0),o 14 (.load none (t 13)),o 15 (.callg 102 [t 14,n 3]),o 16 (.bin .add (n 1) (t 15)),v 2 16])
 (.after (.block 0 (.loop code209L0)) [0]))
 (R [] [v 23 0,v 24 0,o 25 (.nilcheck (t 24)),o 26 (.faddr (t 25) 4),o 27 (.load none (t 26)),o 28 (.bin .sub (t 27) (n 1)),o 29 (.nilcheck (t 23)),o 30 (.faddr (t 29) 4),u (.store 1 (t 30) (t 28))])),none⟩
def code210:AFunc:=⟨false,false,2,14,[.tmp 4],
 .seq (R [0,1] [o 4 (.val (n 0))])
 (.seq (R [0] [v 5 0,v 6 1,o 7 (.callg 150 [t 5,t 6,n 0])])
 (.seq (R [4] [v 8 0,o 9 (.nilcheck (t 8)),o 10 (.faddr (t 9) 1),o 11 (.load none (t 10)),o 12 (.len .sl (t 11)),o 13 (.bin .sub (t 12) (n 1)),v 4 13])
 (.live [4] (.ret)))),none⟩
def code222:AFunc:=⟨false,false,0,2,[.tmp 0],
 .seq (R [] [o 0 (.val (.const (.slice none 0 (some 0))))])
 (.seq (R [0] [o 1 (.mkslice 1 7 [.str [],.str [],.str [],.str [],.str [],.str [],.str []] [(0,1,.const (.str [73])),(1,1,.const (.str [73])),(2,1,.const (.str [73])),(3,1,.const (.str [74])),(4,1,.const (.str [76,65,59])),(5,1,.const (.str [91,73])),(6,1,.const (.str [91,66]))]),v 0 1])
 (.live [0] (.ret))),none⟩
def code100208:AFunc:=⟨false,false,2,47,[.tmp 4],
 .seq (R [0,1] [o 4 (.val (n 0))])
 (.seq (R [0,1,5] [v 7 0,o 8 (.nilcheck (t 7)),o 9 (.faddr (t 8) 1),o 10 (.load none (t 9)),o 11 (.len .sl (t 10)),v 5 11])
 (.seq (.seq (R [0,1,5,6] [v 12 0,o 13 (.nilcheck (t 12)),o 14 (.faddr (t 13) 3),o 15 (.load none (t 14)),o 16 (.len .sl (t 15)),v 6 16])
 (.seq (R [0,1,5,31] [v 17 6,o 18 (.bin .gtr (t 17) (n 0)),v 19 18,g 20 19 true (.val (t 0)),g 21 19 true (.nilcheck (t 20)),g 22 19 true (.faddr (t 21) 3),g 23 19 true (.load none (t 22)),g 24 19 true (.val (t 6)),g 25 19 true (.bin .sub (t 24) (n 1)),g 26 19 true (.iaddr 3 (t 23) (t 25)),g 27 19 true (.faddr (t 26) 0),g 28 19 true (.load none (t 27)),g 29 19 true (.val (t 5)),g 30 19 true (.bin .eql (t 28) (t 29)),o 31 (.pick (t 19) (t 30) F)])
 (.after (.cond (t 31) (.seq (R [4] [v 32 5,v 4 32])
 (.live [4] (.ret))) (.skip)) [0,1,5])))
 (.seq (.after (.region [⟨true,[0,0,2,6,14,0,0,0,224,480,1022],[v 33 0,v 34 0,o 35 (.nilcheck (t 34)),o 36 (.faddr (t 35) 3),o 37 (.load none (t 36)),v 38 5,o 39 (.callg 222 []),v 40 1,o 41 (.build [.int .i64 0,.slice none 0 (some 0),.slice none 0 (some 0)] [(0,1,t 38),(1,1,t 39),(2,1,t 40)]),o 42 (.mkslice 3 1 [.int .i64 0,.slice none 0 (some 0),.slice none 0 (some 0)] [(0,3,t 41)]),o 43 (.append 3 56 (t 37) (t 42))]⟩,⟨false,[],[o 44 (.nilcheck (t 33)),o 45 (.faddr (t 44) 3),u (.store 1 (t 45) (t 43))]⟩]) [5])
 (.seq (R [4] [v 46 5,v 4 46])
 (.live [4] (.ret)))))),none⟩
def T:Nat→Option AFunc:=fun g=>match AbsHier.T g with
 | some f=>some f
 | none=>List.lookup g [(48,code48),(101,code101),(102,code102),(150,code150),(151,code151),(152,code152),(153,code153),(154,code154),(183,code183),(184,code184),(185,code185),(186,code186),(187,code187),(188,code188),(209,code209),(210,code210),(222,code222),(100208,code100208)]
theorem sub:∀ g f,AbsHier.T g=some f→T g=some f:=fun g f h=>by unfold T; rw [h]
theorem t48:T 48=some code48:=rfl
theorem t101:T 101=some code101:=rfl
theorem t102:T 102=some code102:=rfl
theorem t150:T 150=some code150:=rfl
theorem t151:T 151=some code151:=rfl
theorem t152:T 152=some code152:=rfl
theorem t153:T 153=some code153:=rfl
theorem t154:T 154=some code154:=rfl
theorem t183:T 183=some code183:=rfl
theorem t184:T 184=some code184:=rfl
theorem t185:T 185=some code185:=rfl
theorem t186:T 186=some code186:=rfl
theorem t187:T 187=some code187:=rfl
theorem t188:T 188=some code188:=rfl
theorem t209:T 209=some code209:=rfl
theorem t210:T 210=some code210:=rfl
theorem t222:T 222=some code222:=rfl
theorem gt:T 100208=some code100208:=rfl
end Go.Abs.AbsMake

namespace Go.Abs.AbsOrd
open Go.Abs.Short
-- base: AbsMake
def T:Nat→Option AFunc:=fun g=>match AbsMake.T g with
 | some f=>some f
 | none=>List.lookup g []
theorem sub:∀ g f,AbsMake.T g=some f→T g=some f:=fun g f h=>by unfold T; rw [h]
end Go.Abs.AbsOrd

namespace Go.Abs.AbsFlow
open Go.Abs.Short
-- base: AbsOrd
def code71:AFunc:=⟨false,false,2,19,[.cell 4 (some 3),.tmp 5],
 .seq (R [2,3,4] [o 2 (.lbox (t 0)),o 3 (.box (t 1)),o 4 (.lalloc [.int .i64 0,.slice none 0 (some 0),.slice none 0 (some 0)]),o 5 (.val F)])
 (.seq (R [2,4,6] [o 7 (.faddr (t 2) 7),o 8 (.load none (t 7)),o 9 (.mkfunc 132 [] [t 3]),o 10 (.callg 133 [t 8,t 9]),v 6 10])
 (.seq (.seq (R [2,4,6,12] [v 11 6,o 12 (.bin .lss (t 11) (n 0))])
 (.after (.cond (t 12) (.seq (R [4,5] [o 13 (.build [.int .i64 0,.slice none 0 (some 0),.slice none 0 (some 0)] []),u (.store 3 (t 4) (t 13)),o 5 (.val F)])
 (.live [4,5] (.ret))) (.skip)) [2,4,6]))
 (.seq (R [4,5] [o 14 (.faddr (t 2) 7),o 15 (.load none (t 14)),v 16 6,o 17 (.iaddr 3 (t 15) (t 16)),o 18 (.load (some 3) (t 17)),u (.store 3 (t 4) (t 18)),o 5 (.val Y)])
 (.live [4,5] (.ret))))),none⟩
def code73:AFunc:=⟨false,false,1,11,[.tmp 2],
 .seq (R [0] [o 2 (.val F)])
 (.seq (.seq (R [3] [v 3 0])
 (.after (.block 0 (.seq (.seq (R [3,4] [o 5 (.bin .eql (t 3) (.const (.int .u8 167))),v 4 5])
 (.after (.cond (t 4) (.skip) (.seq (R [3,4] [o 6 (.bin .eql (t 3) (.const (.int .u8 191))),v 4 6])
 (.after (.cond (t 4) (.skip) (.seq (R [3,4] [o 7 (.bin .eql (t 3) (.const (.int .u8 172))),v 4 7])
 (.after (.cond (t 4) (.skip) (.seq (R [3,4] [o 8 (.bin .eql (t 3) (.const (.int .u8 173))),v 4 8])
 (.after (.cond (t 4) (.skip) (.seq (R [3,4] [o 9 (.bin .eql (t 3) (.const (.int .u8 176))),v 4 9])
 (.after (.cond (t 4) (.skip) (R [4] [o 10 (.bin .eql (t 3) (.const (.int .u8 177))),v 4 10])) [4]))) [4]))) [4]))) [4]))) [4]))
 (.after (.cond (t 4) (.seq (R [2] [o 2 (.val Y)])
 (.live [2] (.ret))) (.skip)) []))) []))
 (.seq (R [2] [o 2 (.val F)])
 (.live [2] (.ret)))),none⟩
def code76L0:ACode :=
 .live [1,78,79,80] (.seq (R [1,78,79,80,81] [o 81 (.bin .lss (t 80) (t 79))])
 (.seq (.after (.cond (t 81) (.skip) (.live [] (.exit 2))) [1,78,79,80])
 (.seq (.after (.block 3 (.seq (R [1,10,78,79,80] [o 82 (.iaddr 1 (t 78) (t 80)),o 83 (.load none (t 82)),v 10 83])
 (.seq (R [1,12,78,79,80] [o 85 (.load (some 8) (t 1)),v 86 10,o 87 (.callg 71 [t 85,t 86]),v 84 87,o 88 (.extract (t 84) 0),o 89 (.extract (t 84) 1),o 11 (.lalloc [.int .i64 0,.slice none 0 (some 0),.slice none 0 (some 0)]),u (.store 3 (t 11) (t 88)),v 12 89])
 (.seq (R [1,78,79,80,91] [v 90 12,o 91 (.un .not (t 90))])
 (.after (.cond (t 91) (.seq (R [2] [o 2 (.val (n 11))])
 (.live [2] (.ret))) (.skip)) [1,78,79,80]))))) [1,78,79,80])
 (R [1,78,79,80] [o 92 (.bin .add (t 80) (n 1)),v 80 92]))))
def code76L1:ACode :=
 .live [1,6,56,57,58] (.seq (R [1,6,56,57,58,59] [o 59 (.bin .lss (t 58) (t 57))])
 (.seq (.after (.cond (t 59) (.skip) (.live [1,6] (.exit 0))) [1,6,56,57,58])
 (.seq (.after (.block 1 (.seq (R [1,6,7,8,56,57,58] [v 60 58,o 61 (.iaddr 7 (t 56) (t 58)),o 62 (.load (some 7) (t 61)),o 8 (.lalloc [.int .u8 0,.int .i64 0,.int .i64 0,.str [],.str [],.str [],.str []]),v 7 60,u (.store 7 (t 8) (t 62))])
 (.seq (.after (.region [⟨true,[],[o 63 (.load (some 8) (t 1)),o 64 (.load (some 7) (t 8)),v 65 6,v 66 7,o 67 (.iaddr 1 (t 65) (t 66)),o 68 (.load none (t 67))]⟩,⟨false,[],[o 69 (.callg 125 [t 63,t 64,t 68]),o 70 (.un .not (t 69))]⟩]) [1,6,56,57,58,70])
 (.after (.cond (t 70) (.seq (R [2] [o 2 (.val (n 8))])
 (.live [2] (.ret))) (.skip)) [1,6,56,57,58])))) [1,6,56,57,58])
 (R [1,6,56,57,58] [o 71 (.bin .add (t 58) (n 1)),v 58 71]))))
def code76:AFunc:=⟨false,false,1,93,[.tmp 2],
 .seq (R [1] [o 1 (.lbox (t 0)),o 2 (.val (n 0))])
 (.seq (R [1,5] [o 14 (.faddr (t 1) 2),o 15 (.load none (t 14)),o 16 (.callg 38 [t 15]),v 13 16,o 17 (.extract (t 13) 0),o 18 (.extract (t 13) 1),o 19 (.extract (t 13) 2),v 3 17,v 4 18,v 5 19])
 (.seq (.seq (R [1,52] [v 20 5,o 21 (.bin .neq (t 20) (n 0)),v 22 21,g 23 22 false (.faddr (t 1) 3),g 24 22 false (.load none (t 23)),g 25 22 false (.callg 127 [t 24,n 0,n 64]),g 26 22 false (.un .not (t 25)),o 27 (.pick (t 22) Y (t 26)),v 28 27,g 29 28 false (.faddr (t 1) 4),g 30 28 false (.load none (t 29)),g 31 28 false (.callg 127 [t 30,n 0,n 64]),g 32 28 false (.un .not (t 31)),o 33 (.pick (t 28) Y (t 32)),v 34 33,g 35 34 false (.faddr (t 1) 5),g 36 34 false (.load none (t 35)),g 37 34 false (.len .sl (t 36)),g 38 34 false (.bin .eql (t 37) (n 0)),o 39 (.pick (t 34) Y (t 38)),v 40 39,g 41 40 false (.faddr (t 1) 5),g 42 40 false (.load none (t 41)),g 43 40 false (.faddr (t 1) 5),g 44 40 false (.load none (t 43)),g 45 40 false (.len .sl (t 44)),g 46 40 false (.bin .sub (t 45) (n 1)),g 47 40 false (.iaddr 7 (t 42) (t 46)),g 48 40 false (.faddr (t 47) 0),g 49 40 false (.load none (t 48)),g 50 40 false (.callg 73 [t 49]),g 51 40 false (.un .not (t 50)),o 52 (.pick (t 40) Y (t 51))])
 (.after (.cond (t 52) (.seq (R [2] [o 2 (.val (n 8))])
 (.live [2] (.ret))) (.skip)) [1]))
 (.seq (R [1,6] [o 53 (.load (some 8) (t 1)),o 54 (.callg 126 [t 53]),v 6 54])
 (.seq (.seq (R [1,6,56,57,58] [o 55 (.faddr (t 1) 5),o 56 (.load none (t 55)),o 57 (.len .sl (t 56)),o 58 (.val (n 0))])
 (.after (.block 0 (.loop code76L1)) [1,6]))
 (.seq (.seq (R [1,6,75] [o 72 (.load (some 8) (t 1)),v 73 6,o 74 (.callg 124 [t 72,t 73]),o 75 (.un .not (t 74))])
 (.after (.cond (t 75) (.seq (R [2] [o 2 (.val (n 2))])
 (.live [2] (.ret))) (.skip)) [1,6]))
 (.seq (.seq (R [1,78,79,80] [o 76 (.load (some 8) (t 1)),v 77 6,o 78 (.callg 123 [t 76,t 77]),o 79 (.len .sl (t 78)),o 80 (.val (n 0))])
 (.after (.block 2 (.loop code76L0)) []))
 (.seq (R [2] [o 2 (.val (n 0))])
 (.live [2] (.ret))))))))),none⟩
def code77:AFunc:=⟨true,false,0,31,[.tmp 0],
 .seq (R [] [o 0 (.val F)])
 (.seq (R [1] [o 3 (.build [.int .u8 0,.int .i64 0,.int .i64 0,.str [],.str [],.str [],.str []] [(0,1,.const (.int .u8 177))]),o 4 (.mkslice 7 1 [.int .u8 0,.int .i64 0,.int .i64 0,.str [],.str [],.str [],.str []] [(0,7,t 3)]),o 5 (.build [.bool false,.str [],.str [],.int .i64 0,.int .i64 0,.slice none 0 (some 0),.slice none 0 (some 0),.slice none 0 (some 0)] [(2,1,.const (.str [40,41,86])),(5,1,t 4)]),o 1 (.lalloc [.bool false,.str [],.str [],.int .i64 0,.int .i64 0,.slice none 0 (some 0),.slice none 0 (some 0),.slice none 0 (some 0)]),u (.store 8 (t 1) (t 5))])
 (.seq (R [1,2] [o 6 (.build [.int .u8 0,.int .i64 0,.int .i64 0,.str [],.str [],.str [],.str []] [(0,1,.const (.int .u8 167))]),o 7 (.mkslice 7 1 [.int .u8 0,.int .i64 0,.int .i64 0,.str [],.str [],.str [],.str []] [(0,7,t 6)]),o 8 (.build [.bool false,.str [],.str [],.int .i64 0,.int .i64 0,.slice none 0 (some 0),.slice none 0 (some 0),.slice none 0 (some 0)] [(2,1,.const (.str [40,41,86])),(5,1,t 7)]),o 2 (.lalloc [.bool false,.str [],.str [],.int .i64 0,.int .i64 0,.slice none 0 (some 0),.slice none 0 (some 0),.slice none 0 (some 0)]),u (.store 8 (t 2) (t 8))])
 (.seq (R [0] [o 9 (.load (some 8) (t 1)),o 10 (.callg 76 [t 9]),o 11 (.bin .eql (t 10) (n 0)),v 12 11,g 13 12 true (.load (some 8) (t 2)),g 14 12 true (.callg 76 [t 13]),g 15 12 true (.bin .eql (t 14) (n 11)),o 16 (.pick (t 12) (t 15) F),v 17 16,g 18 17 true (.build [.bool false,.str [],.str [],.int .i64 0,.int .i64 0,.slice none 0 (some 0),.slice none 0 (some 0),.slice none 0 (some 0)] []),g 19 17 true (.callg 76 [t 18]),g 20 17 true (.bin .eql (t 19) (n 8)),o 21 (.pick (t 17) (t 20) F),v 22 21,g 23 22 true (.callg 73 [.const (.int .u8 191)]),o 24 (.pick (t 22) (t 23) F),v 25 24,g 26 25 true (.load (some 8) (t 2)),g 27 25 true (.callg 100074 [t 26,n 0]),g 28 25 true (.len .sl (t 27)),g 29 25 true (.bin .eql (t 28) (n 1)),o 30 (.pick (t 25) (t 29) F),v 0 30])
 (.live [0] (.ret))))),none⟩
def code78L0:ACode :=
 .live [15,16,17,22,23,24] (.seq (R [15,16,17,22,23,24,25] [o 25 (.bin .lss (t 24) (t 23))])
 (.seq (.after (.cond (t 25) (.skip) (.live [15,16,17] (.exit 2))) [15,16,17,22,23,24])
 (.seq (.after (.block 3 (.seq (R [6,15,16,17,22,23,24] [o 26 (.iaddr 8 (t 22) (t 24)),o 27 (.load (some 8) (t 26)),o 6 (.lalloc [.bool false,.str [],.str [],.int .i64 0,.int .i64 0,.slice none 0 (some 0),.slice none 0 (some 0),.slice none 0 (some 0)]),u (.store 8 (t 6) (t 27))])
 (.seq (R [15,16,17,22,23,24,30] [o 28 (.load (some 8) (t 6)),o 29 (.callg 76 [t 28]),o 30 (.bin .neq (t 29) (n 0))])
 (.after (.cond (t 30) (.seq (R [2] [o 2 (.val F)])
 (.live [2] (.ret))) (.skip)) [15,16,17,22,23,24])))) [15,16,17,22,23,24])
 (R [15,16,17,22,23,24] [o 31 (.bin .add (t 24) (n 1)),v 24 31]))))
def code78L1:ACode :=
 .live [15,16,17] (.seq (R [15,16,17,18] [o 18 (.bin .lss (t 17) (t 16))])
 (.seq (.after (.cond (t 18) (.skip) (.live [] (.exit 0))) [15,16,17])
 (.seq (.after (.block 1 (.seq (R [4,15,16,17] [o 19 (.iaddr 4 (t 15) (t 17)),o 20 (.load (some 4) (t 19)),o 4 (.lalloc [.str [],.str [],.slice none 0 (some 0),.slice none 0 (some 0)]),u (.store 4 (t 4) (t 20))])
 (.seq (R [15,16,17,22,23,24] [o 21 (.faddr (t 4) 3),o 22 (.load none (t 21)),o 23 (.len .sl (t 22)),o 24 (.val (n 0))])
 (.after (.block 2 (.loop code78L0)) [15,16,17])))) [15,16,17])
 (R [15,16,17] [o 32 (.bin .add (t 17) (n 1)),v 17 32]))))
def code78:AFunc:=⟨false,false,1,33,[.tmp 2],
 .seq (R [0] [o 2 (.val F)])
 (.seq (.seq (R [0,8] [o 7 (.callg 77 []),o 8 (.un .not (t 7))])
 (.after (.cond (t 8) (.seq (R [2] [o 2 (.val F)])
 (.live [2] (.ret))) (.skip)) [0]))
 (.seq (.seq (R [0,11] [v 9 0,o 10 (.len .sl (t 9)),o 11 (.bin .gtr (t 10) (n 300))])
 (.after (.cond (t 11) (.seq (R [2] [o 2 (.val Y)])
 (.live [2] (.ret))) (.skip)) [0]))
 (.seq (.seq (R [15,16,17] [v 12 0,o 13 (.build [.slice none 0 (some 0),.int .i64 0] [(0,1,t 12)]),o 14 (.box (t 13)),o 15 (.callg 48 [t 14]),o 16 (.len .sl (t 15)),o 17 (.val (n 0))])
 (.after (.block 0 (.loop code78L1)) []))
 (.seq (R [2] [o 2 (.val Y)])
 (.live [2] (.ret)))))),none⟩
def code123L0:ACode :=
 .live [5,46,47,48] (.seq (R [5,46,47,48,49] [o 49 (.bin .lss (t 48) (t 47))])
 (.seq (.after (.cond (t 49) (.skip) (.live [5] (.exit 2))) [5,46,47,48])
 (.seq (.after (.block 3 (.seq (R [5,9,46,47,48] [o 50 (.iaddr 4 (t 46) (t 48)),o 51 (.load (some 4) (t 50)),o 9 (.lalloc [.int .i64 0,.int .i64 0,.int .i64 0,.str []]),u (.store 4 (t 9) (t 51))])
 (R [5,46,47,48] [v 52 5,o 53 (.faddr (t 9) 2),o 54 (.load none (t 53)),o 55 (.mkslice 1 1 [.int .i64 0] [(0,1,t 54)]),o 56 (.append 1 8 (t 52) (t 55)),v 5 56]))) [5,46,47,48])
 (R [5,46,47,48] [o 57 (.bin .add (t 48) (n 1)),v 48 57]))))
def code123L1:ACode :=
 .live [1,2,5,11,12,13] (.seq (R [1,2,5,11,12,13,14] [o 14 (.bin .lss (t 13) (t 12))])
 (.seq (.after (.cond (t 14) (.skip) (.live [2,5] (.exit 0))) [1,2,5,11,12,13])
 (.seq (.after (.block 1 (.seq (R [1,2,5,6,7,11,12,13] [v 15 13,o 16 (.iaddr 7 (t 11) (t 13)),o 17 (.load (some 7) (t 16)),o 7 (.lalloc [.int .u8 0,.int .i64 0,.int .i64 0,.str [],.str [],.str [],.str []]),v 6 15,u (.store 7 (t 7) (t 17))])
 (.seq (.seq (R [1,2,5,6,7,11,12,13,22] [v 18 1,v 19 6,o 20 (.iaddr 1 (t 18) (t 19)),o 21 (.load none (t 20)),o 22 (.bin .eql (t 21) (n 7))])
 (.after (.cond (t 22) (R [1,2,5,6,7,11,12,13] [v 23 5,o 24 (.faddr (t 7) 1),o 25 (.load none (t 24)),o 26 (.mkslice 1 1 [.int .i64 0] [(0,1,t 25)]),o 27 (.append 1 8 (t 23) (t 26)),v 5 27]) (.skip)) [1,2,5,6,7,11,12,13]))
 (.seq (R [1,2,5,6,11,12,13,38] [o 28 (.faddr (t 7) 0),o 29 (.load none (t 28)),o 30 (.callg 73 [t 29]),v 31 30,g 32 31 true (.val (t 6)),g 33 31 true (.bin .add (t 32) (n 1)),g 34 31 true (.faddr (t 2) 5),g 35 31 true (.load none (t 34)),g 36 31 true (.len .sl (t 35)),g 37 31 true (.bin .lss (t 33) (t 36)),o 38 (.pick (t 31) (t 37) F)])
 (.after (.cond (t 38) (R [1,2,5,11,12,13] [v 39 5,v 40 6,o 41 (.bin .add (t 40) (n 1)),o 42 (.mkslice 1 1 [.int .i64 0] [(0,1,t 41)]),o 43 (.append 1 8 (t 39) (t 42)),v 5 43]) (.skip)) [1,2,5,11,12,13]))))) [1,2,5,11,12,13])
 (R [1,2,5,11,12,13] [o 44 (.bin .add (t 13) (n 1)),v 13 44]))))
def code123:AFunc:=⟨false,false,2,59,[.tmp 4],
 .seq (R [1,2] [o 2 (.lbox (t 0)),o 4 (.val (.const (.slice none 0 (some 0))))])
 (.seq (R [1,2,5] [o 5 (.val (.const (.slice none 0 (some 0))))])
 (.seq (.seq (R [1,2,5,11,12,13] [o 10 (.faddr (t 2) 5),o 11 (.load none (t 10)),o 12 (.len .sl (t 11)),o 13 (.val (n 0))])
 (.after (.block 0 (.loop code123L1)) [2,5]))
 (.seq (.seq (R [5,46,47,48] [o 45 (.faddr (t 2) 6),o 46 (.load none (t 45)),o 47 (.len .sl (t 46)),o 48 (.val (n 0))])
 (.after (.block 2 (.loop code123L0)) [5]))
 (.seq (R [4] [v 58 5,v 4 58])
 (.live [4] (.ret)))))),none⟩
def code124L0:ACode :=
 .live [2,9,67,68,69] (.seq (R [2,9,67,68,69,70] [o 70 (.bin .lss (t 69) (t 68))])
 (.seq (.after (.cond (t 70) (.skip) (.live [] (.exit 4))) [2,9,67,68,69])
 (.seq (.after (.block 5 (.seq (R [2,9,11,67,68,69] [o 71 (.iaddr 3 (t 67) (t 69)),o 72 (.load (some 3) (t 71)),o 11 (.lalloc [.int .i64 0,.slice none 0 (some 0),.slice none 0 (some 0)]),u (.store 3 (t 11) (t 72))])
 (.seq (.seq (R [2,11,67,68,69,83] [o 73 (.faddr (t 11) 0),o 74 (.load none (t 73)),v 75 9,o 76 (.bin .leq (t 74) (t 75)),v 77 76,g 78 77 false (.load (some 8) (t 2)),g 79 77 false (.faddr (t 11) 0),g 80 77 false (.load none (t 79)),g 81 77 false (.callg 131 [t 78,t 80]),g 82 77 false (.un .not (t 81)),o 83 (.pick (t 77) Y (t 82))])
 (.after (.cond (t 83) (.seq (R [4] [o 4 (.val F)])
 (.live [4] (.ret))) (.skip)) [2,11,67,68,69]))
 (R [2,9,67,68,69] [o 84 (.faddr (t 11) 0),o 85 (.load none (t 84)),v 9 85])))) [2,9,67,68,69])
 (R [2,9,67,68,69] [o 86 (.bin .add (t 69) (n 1)),v 69 86]))))
def code124L1:ACode :=
 .live [2,34,35,36] (.seq (R [2,34,35,36,37] [o 37 (.bin .lss (t 36) (t 35))])
 (.seq (.after (.cond (t 37) (.skip) (.live [2] (.exit 2))) [2,34,35,36])
 (.seq (.after (.block 3 (.seq (R [2,8,34,35,36] [o 38 (.iaddr 4 (t 34) (t 36)),o 39 (.load (some 4) (t 38)),o 8 (.lalloc [.int .i64 0,.int .i64 0,.int .i64 0,.str []]),u (.store 4 (t 8) (t 39))])
 (.seq (R [2,34,35,36,64] [o 40 (.faddr (t 8) 0),o 41 (.load none (t 40)),o 42 (.bin .lss (t 41) (n 0)),v 43 42,g 44 43 false (.faddr (t 8) 0),g 45 43 false (.load none (t 44)),g 46 43 false (.faddr (t 8) 1),g 47 43 false (.load none (t 46)),g 48 43 false (.bin .geq (t 45) (t 47)),o 49 (.pick (t 43) Y (t 48)),v 50 49,g 51 50 false (.faddr (t 8) 1),g 52 50 false (.load none (t 51)),g 53 50 false (.faddr (t 2) 5),g 54 50 false (.load none (t 53)),g 55 50 false (.len .sl (t 54)),g 56 50 false (.bin .gtr (t 52) (t 55)),o 57 (.pick (t 50) Y (t 56)),v 58 57,g 59 58 false (.load (some 8) (t 2)),g 60 58 false (.faddr (t 8) 2),g 61 58 false (.load none (t 60)),g 62 58 false (.callg 131 [t 59,t 61]),g 63 58 false (.un .not (t 62)),o 64 (.pick (t 58) Y (t 63))])
 (.after (.cond (t 64) (.seq (R [4] [o 4 (.val F)])
 (.live [4] (.ret))) (.skip)) [2,34,35,36])))) [2,34,35,36])
 (R [2,34,35,36] [o 65 (.bin .add (t 36) (n 1)),v 36 65]))))
def code124L2:ACode :=
 .live [1,2,13,14,15] (.seq (R [1,2,13,14,15,16] [o 16 (.bin .lss (t 15) (t 14))])
 (.seq (.after (.cond (t 16) (.skip) (.live [2] (.exit 0))) [1,2,13,14,15])
 (.seq (.after (.block 1 (.seq (R [1,2,5,6,13,14,15] [v 17 15,o 18 (.iaddr 7 (t 13) (t 15)),o 19 (.load (some 7) (t 18)),o 6 (.lalloc [.int .u8 0,.int .i64 0,.int .i64 0,.str [],.str [],.str [],.str []]),v 5 17,u (.store 7 (t 6) (t 19))])
 (.seq (R [1,2,13,14,15,31] [v 20 1,v 21 5,o 22 (.iaddr 1 (t 20) (t 21)),o 23 (.load none (t 22)),o 24 (.bin .eql (t 23) (n 7)),v 25 24,g 26 25 true (.load (some 8) (t 2)),g 27 25 true (.faddr (t 6) 1),g 28 25 true (.load none (t 27)),g 29 25 true (.callg 131 [t 26,t 28]),g 30 25 true (.un .not (t 29)),o 31 (.pick (t 25) (t 30) F)])
 (.after (.cond (t 31) (.seq (R [4] [o 4 (.val F)])
 (.live [4] (.ret))) (.skip)) [1,2,13,14,15])))) [1,2,13,14,15])
 (R [1,2,13,14,15] [o 32 (.bin .add (t 15) (n 1)),v 15 32]))))
def code124:AFunc:=⟨false,false,2,87,[.tmp 4],
 .seq (R [1,2] [o 2 (.lbox (t 0)),o 4 (.val F)])
 (.seq (.seq (R [1,2,13,14,15] [o 12 (.faddr (t 2) 5),o 13 (.load none (t 12)),o 14 (.len .sl (t 13)),o 15 (.val (n 0))])
 (.after (.block 0 (.loop code124L2)) [2]))
 (.seq (.seq (R [2,34,35,36] [o 33 (.faddr (t 2) 6),o 34 (.load none (t 33)),o 35 (.len .sl (t 34)),o 36 (.val (n 0))])
 (.after (.block 2 (.loop code124L1)) [2]))
 (.seq (R [2,9] [o 9 (.val (.const (.int .i64 (-1))))])
 (.seq (.seq (R [2,9,67,68,69] [o 66 (.faddr (t 2) 7),o 67 (.load none (t 66)),o 68 (.len .sl (t 67)),o 69 (.val (n 0))])
 (.after (.block 4 (.loop code124L0)) []))
 (.seq (R [4] [o 4 (.val Y)])
 (.live [4] (.ret))))))),none⟩
def code125:AFunc:=⟨false,false,3,30,[.tmp 6],
 .seq (R [2,3,4] [o 3 (.lbox (t 0)),o 4 (.lbox (t 1)),o 6 (.val F)])
 (.seq (R [2,3,4,7] [o 7 (.val (n 0))])
 (.seq (.seq (R [2,3,4,7,15] [o 8 (.faddr (t 4) 0),o 9 (.load none (t 8)),o 10 (.bin .eql (t 9) (.const (.int .u8 22))),v 11 10,g 12 11 false (.faddr (t 4) 0),g 13 11 false (.load none (t 12)),g 14 11 false (.bin .eql (t 13) (.const (.int .u8 55))),o 15 (.pick (t 11) Y (t 14))])
 (.after (.cond (t 15) (R [2,3,4,7] [o 7 (.val (n 1))]) (.skip)) [2,3,4,7]))
 (.seq (.seq (R [3,4,7,16] [v 16 2])
 (.after (.block 0 (.seq (R [3,4,7,16,17] [o 18 (.bin .eql (t 16) (n 0)),v 17 18])
 (.after (.cond (t 17) (.seq (R [6] [o 6 (.val F)])
 (.live [6] (.ret))) (.seq (.seq (R [3,4,7,16,19] [o 20 (.bin .eql (t 16) (n 2)),v 19 20])
 (.after (.cond (t 19) (.skip) (R [3,4,7,19] [o 21 (.bin .eql (t 16) (n 8)),v 19 21])) [3,4,7,19]))
 (.after (.cond (t 19) (.seq (R [6] [o 22 (.faddr (t 4) 1),o 23 (.load none (t 22)),o 24 (.faddr (t 3) 4),o 25 (.load none (t 24)),o 26 (.bin .sub (t 25) (n 1)),v 27 7,o 28 (.bin .sub (t 26) (t 27)),o 29 (.callg 164 [t 23,n 0,t 28]),v 6 29])
 (.live [6] (.ret))) (.skip)) []))) []))) []))
 (.seq (R [6] [o 6 (.val Y)])
 (.live [6] (.ret)))))),none⟩
def code126L0:ACode :=
 .live [3,7,8,9] (.seq (R [3,7,8,9,10] [o 10 (.bin .lss (t 9) (t 8))])
 (.seq (.after (.cond (t 10) (.skip) (.live [3] (.exit 0))) [3,7,8,9])
 (.seq (.after (.block 1 (.seq (R [3,5,7,8,9] [o 11 (.iaddr 7 (t 7) (t 9)),o 12 (.load (some 7) (t 11)),o 5 (.lalloc [.int .u8 0,.int .i64 0,.int .i64 0,.str [],.str [],.str [],.str []]),u (.store 7 (t 5) (t 12))])
 (R [3,7,8,9] [v 13 3,o 14 (.faddr (t 5) 0),o 15 (.load none (t 14)),o 16 (.callg 130 [t 15]),o 17 (.mkslice 1 1 [.int .i64 0] [(0,1,t 16)]),o 18 (.append 1 8 (t 13) (t 17)),v 3 18]))) [3,7,8,9])
 (R [3,7,8,9] [o 19 (.bin .add (t 9) (n 1)),v 9 19]))))
def code126:AFunc:=⟨false,false,1,21,[.tmp 2],
 .seq (R [1] [o 1 (.lbox (t 0)),o 2 (.val (.const (.slice none 0 (some 0))))])
 (.seq (R [1,3] [o 3 (.val (.const (.slice none 0 (some 0))))])
 (.seq (.seq (R [3,7,8,9] [o 6 (.faddr (t 1) 5),o 7 (.load none (t 6)),o 8 (.len .sl (t 7)),o 9 (.val (n 0))])
 (.after (.block 0 (.loop code126L0)) [3]))
 (.seq (R [2] [v 20 3,v 2 20])
 (.live [2] (.ret))))),none⟩
def code127:AFunc:=⟨false,false,3,15,[.tmp 6],
 .seq (R [0,1,2] [o 6 (.val F)])
 (.seq (R [6] [v 7 0,v 8 1,o 9 (.bin .geq (t 7) (t 8)),v 10 9,g 11 10 true (.val (t 0)),g 12 10 true (.val (t 2)),g 13 10 true (.bin .leq (t 11) (t 12)),o 14 (.pick (t 10) (t 13) F),v 6 14])
 (.live [6] (.ret))),none⟩
def code128L0:ACode :=
 .live [0,3,4,5] (.seq (.seq (R [0,3,4,5,32] [v 29 5,v 30 4,o 31 (.len .sl (t 30)),o 32 (.bin .lss (t 29) (t 31))])
 (.after (.cond (t 32) (.skip) (.live [0,3] (.exit 2))) [0,3,4,5]))
 (.seq (.after (.block 3 (.seq (.after (.region [⟨true,[],[v 35 4,v 36 5,o 37 (.iaddr 1 (t 35) (t 36)),o 38 (.load none (t 37)),v 39 4,v 40 5,o 41 (.bin .sub (t 40) (n 1)),o 42 (.iaddr 1 (t 39) (t 41)),o 43 (.load none (t 42))]⟩,⟨false,[],[o 44 (.bin .neq (t 38) (t 43))]⟩]) [0,3,4,5,44])
 (.after (.cond (t 44) (.seq (R [0,3,4,5] [v 45 0,v 46 3,v 47 4,v 48 5,o 49 (.iaddr 1 (t 47) (t 48)),o 50 (.load none (t 49)),o 51 (.iaddr 1 (t 45) (t 46)),u (.store 1 (t 51) (t 50))])
 (R [0,3,4,5] [v 52 3,o 53 (.bin .add (t 52) (n 1)),v 3 53])) (.skip)) [0,3,4,5]))) [0,3,4,5])
 (R [0,3,4,5] [v 33 5,o 34 (.bin .add (t 33) (n 1)),v 5 34])))
def code128L1:ACode :=
 .live [0,3] (.seq (.seq (R [0,3,13] [v 10 3,v 11 0,o 12 (.len .sl (t 11)),o 13 (.bin .lss (t 10) (t 12))])
 (.after (.cond (t 13) (.skip) (.live [0] (.exit 0))) [0,3]))
 (.seq (.after (.block 1 (.seq (.after (.region [⟨true,[],[v 16 0,v 17 3,o 18 (.iaddr 1 (t 16) (t 17)),o 19 (.load none (t 18)),v 20 0,v 21 3,o 22 (.bin .sub (t 21) (n 1)),o 23 (.iaddr 1 (t 20) (t 22)),o 24 (.load none (t 23))]⟩,⟨false,[],[o 25 (.bin .eql (t 19) (t 24))]⟩]) [0,3,25])
 (.after (.cond (t 25) (.seq (R [0,3,4] [v 26 0,v 27 3,o 28 (.slice (.sl 1) (t 26) (some (t 27)) none none),v 4 28])
 (.seq (.seq (R [0,3,4,5] [o 5 (.val (n 1))])
 (.after (.block 2 (.loop code128L0)) [0,3]))
 (.seq (R [0,3] [v 54 0,v 55 3,o 56 (.slice (.sl 1) (t 54) (some (t 55)) none none),u (.ext (.clear 1 [.int .i64 0]) [t 56])])
 (.seq (R [2] [v 57 0,v 58 3,o 59 (.slice (.sl 1) (t 57) none (some (t 58)) none),v 2 59])
 (.live [2] (.ret)))))) (.skip)) [0,3]))) [0,3])
 (R [0,3] [v 14 3,o 15 (.bin .add (t 14) (n 1)),v 3 15])))
def code128:AFunc:=⟨false,false,1,61,[.tmp 2],
 .seq (R [0] [o 2 (.val (.const (.slice none 0 (some 0))))])
 (.seq (.seq (R [0,8] [v 6 0,o 7 (.len .sl (t 6)),o 8 (.bin .lss (t 7) (n 2))])
 (.after (.cond (t 8) (.seq (R [2] [v 9 0,v 2 9])
 (.live [2] (.ret))) (.skip)) [0]))
 (.seq (.seq (R [0,3] [o 3 (.val (n 1))])
 (.after (.block 0 (.loop code128L1)) [0]))
 (.seq (R [2] [v 60 0,v 2 60])
 (.live [2] (.ret))))),none⟩
def code129:AFunc:=⟨false,false,1,11,[],
 .seq (R [0,2] [v 3 0,o 4 (.len .sl (t 3)),v 2 4])
 (R [] [v 5 0,v 6 2,v 7 2,o 8 (.conv (.int .u64) (t 7)),o 9 (.callg 166 [t 8]),o 10 (.callg 167 [t 5,n 0,t 6,t 9])]),none⟩
def code130:AFunc:=⟨false,false,1,7,[.tmp 2],
 .seq (R [0] [o 2 (.val (n 0))])
 (.seq (R [2] [o 3 (.callg 165 []),v 4 0,o 5 (.aindex 256 1 none (t 3) (t 4)),o 6 (.conv (.int .i64) (t 5)),v 2 6])
 (.live [2] (.ret))),none⟩
def code131:AFunc:=⟨false,false,2,11,[.tmp 4],
 .seq (R [1,2] [o 2 (.lbox (t 0)),o 4 (.val F)])
 (.seq (R [4] [v 5 1,o 6 (.faddr (t 2) 5),o 7 (.load none (t 6)),o 8 (.len .sl (t 7)),o 9 (.bin .sub (t 8) (n 1)),o 10 (.callg 164 [t 5,n 0,t 9]),v 4 10])
 (.live [4] (.ret))),none⟩
def code132:AFunc:=⟨false,false,2,8,[.tmp 3],
 .seq (R [1,2] [o 2 (.lbox (t 0)),o 3 (.val F)])
 (.seq (R [3] [o 4 (.faddr (t 2) 0),o 5 (.load none (t 4)),o 6 (.load none (t 1)),o 7 (.bin .eql (t 5) (t 6)),v 3 7])
 (.live [3] (.ret))),none⟩
def code133L0:ACode :=
 .live [0,1,7,8] (.seq (R [0,1,7,8,9] [o 9 (.bin .lss (t 8) (t 7))])
 (.seq (.after (.cond (t 9) (.skip) (.live [] (.exit 0))) [0,1,7,8])
 (.seq (.after (.block 1 (.seq (R [0,1,5,7,8] [v 10 8,v 5 10])
 (.seq (R [0,1,5,7,8,16] [v 11 1,v 12 0,v 13 5,o 14 (.iaddr 3 (t 12) (t 13)),o 15 (.load (some 3) (t 14)),o 16 (.call (t 11) [t 15])])
 (.after (.cond (t 16) (.seq (R [4] [v 17 5,v 4 17])
 (.live [4] (.ret))) (.skip)) [0,1,7,8])))) [0,1,7,8])
 (R [0,1,7,8] [o 18 (.bin .add (t 8) (n 1)),v 8 18]))))
def code133:AFunc:=⟨false,false,2,19,[.tmp 4],
 .seq (R [0,1] [o 4 (.val (n 0))])
 (.seq (.seq (R [0,1,7,8] [v 6 0,o 7 (.len .sl (t 6)),o 8 (.val (n 0))])
 (.after (.block 0 (.loop code133L0)) []))
 (.seq (R [4] [o 4 (.val (.const (.int .i64 (-1))))])
 (.live [4] (.ret)))),none⟩
def code164:AFunc:=⟨false,false,3,15,[.tmp 6],
 .seq (R [0,1,2] [o 6 (.val F)])
 (.seq (R [6] [v 7 0,v 8 1,o 9 (.bin .geq (t 7) (t 8)),v 10 9,g 11 10 true (.val (t 0)),g 12 10 true (.val (t 2)),g 13 10 true (.bin .leq (t 11) (t 12)),o 14 (.pick (t 10) (t 13) F),v 6 14])
 (.live [6] (.ret))),none⟩
def code165L0:ACode :=
 .live [0,1,3,4,5,6,7] (.seq (.seq (R [0,1,3,4,5,6,7,18] [v 14 4,o 15 (.faddr (t 3) 1),o 16 (.load none (t 15)),o 17 (.conv (.int .i64) (t 16)),o 18 (.bin .leq (t 14) (t 17))])
 (.after (.cond (t 18) (.skip) (.live [0,1,5,6,7] (.exit 2))) [0,1,3,4,5,6,7]))
 (.seq (.after (.block 3 (R [0,1,3,4,5,6,7] [v 21 4,o 22 (.faddr (t 3) 2),o 23 (.load none (t 22)),o 24 (.conv (.int .u8) (t 23)),o 25 (.aaddr 256 1 (t 1) (t 21)),u (.store 1 (t 25) (t 24))])) [0,1,3,4,5,6,7])
 (R [0,1,3,4,5,6,7] [v 19 4,o 20 (.bin .add (t 19) (n 1)),v 4 20])))
def code165L1:ACode :=
 .live [0,1,5,6,7] (.seq (R [0,1,5,6,7,8] [o 8 (.bin .lss (t 7) (t 6))])
 (.seq (.after (.cond (t 8) (.skip) (.live [0,1] (.exit 0))) [0,1,5,6,7])
 (.seq (.after (.block 1 (.seq (R [0,1,3,5,6,7] [o 9 (.iaddr 3 (t 5) (t 7)),o 10 (.load (some 3) (t 9)),o 3 (.lalloc [.int .u8 0,.int .u8 0,.int .i64 0]),u (.store 3 (t 3) (t 10))])
 (.seq (R [0,1,3,4,5,6,7] [o 11 (.faddr (t 3) 0),o 12 (.load none (t 11)),o 13 (.conv (.int .i64) (t 12)),v 4 13])
 (.after (.block 2 (.loop code165L0)) [0,1,5,6,7])))) [0,1,5,6,7])
 (R [0,1,5,6,7] [o 26 (.bin .add (t 7) (n 1)),v 7 26]))))
def code165:AFunc:=⟨true,false,0,28,[.cell 0 (some 256)],
 .seq (R [0] [o 0 (.lalloc [.int .u8 0,.int .u8 0,.int .u8 0,.int .u8 0,.int .u8 0,.int .u8 0,.int .u8 0,.int .u8 0,.int .u8 0,.int .u8 0,.int .u8 0,.int .u8 0,.int .u8 0,.int .u8 0,.int .u8 0,.int .u8 0,.int .u8 0,.int .u8 0,.int .u8 0,.int .u8 0,.int .u8 0,.int .u8 0,.int .u8 0,.int .u8 0,.int .u8 0,.int .u8 0,.int .u8 0,.int .u8 0,.int .u8 0,.int .u8 0,.int .u8 0,.int .u8 0,.int .u8 0,.int .u8 0,.int .u8 0,.int .u8 0,.int .u8 0,.int .u8 0,.int .u8 0,.int .u8 0,.int .u8 0,.int .u8 0,.int .u8 0,.int .u8 0,.int .u8 0,.int .u8 0,.int .u8 0,.int .u8 0,.int .u8 0,.int .u8 0,.int .u8 0,.int .u8 0,.int .u8 0,.int .u8 0,.int .u8 0,.int .u8 0,.int .u8 0,.int .u8 0,.int .u8 0,.int .u8 0,.int .u8 0,.int .u8 0,.int .u8 0,.int .u8 0,.int .u8 0,.int .u8 0,.int .u8 0,.int .u8 0,.int .u8 0,.int .u8 0,.int .u8 0,.int .u8 0,.int .u8 0,.int .u8 0,.int .u8 0,.int .u8 0,.int .u8 0,.int .u8 0,.int .u8 0,.int .u8 0,.int .u8 0,.int .u8 0,.int .u8 0,.int .u8 0,.int .u8 0,.int .u8 0,.int .u8 0,.int .u8 0,.int .u8 0,.int .u8 0,.int .u8 0,.int .u8 0,.int .u8 0,.int .u8 0,.int .u8 0,.int .u8 0,.int .u8 0,.int .u8 0,.int .u8 0,.int .u8 0,.int .u8 0,.int .u8 0,.int .u8 0,.int .u8 0,.int .u8 0,.int .u8 0,.int .u8 0,.int .u8 0,.int .u8 0,.int .u8 0,.int .u8 0,.int .u8 0,.int .u8 0,.int .u8 0,.int .u8 0,.int .u8 0,.int .u8 0,.int .u8 0,.int .u8 0,.int .u8 0,.int .u8 0,.int .u8 0,.int .u8 0,.int .u8 0,.int .u8 0,.int .u8 0,.int .u8 0,.int .u8 0,.int .u8 0,.int .u8 0,.int .u8 0,.int .u8 0,.int .u8 0,.int .u8 0,.int .u8 0,.int .u8 0,.int .u8 0,.int .u8 0,.int .u8 0,.int .u8 0,.int .u8 0,.int .u8 0,.int .u8 0,.int .u8 0,.int .u8 0,.int .u8 0,.int .u8 0,.int .u8 0,.int .u8 0,.int .u8 0,.int .u8 0,.int .u8 0,.int .u8 0,.int .u8 0,.int .u8 0,.int .u8 0,.int .u8 0,.int .u8 0,.int .u8 0,.int .u8 0,.int .u8 0,.int .u8 0,.int .u8 0,.int .u8 0,.int .u8 0,.int .u8 0,.int .u8 0,.int .u8 0,.int .u8 0,.int .u8 0,.int .u8 0,.int .u8 0,.int .u8 0,.int .u8 0,.int .u8 0,.int .u8 0,.int .u8 0,.int .u8 0,.int .u8 0,.int .u8 0,.int .u8 0,.int .u8 0,.int .u8 0,.int .u8 0,.int .u8 0,.int .u8 0,.int .u8 0,.int .u8 0,.int .u8 0,.int .u8 0,.int .u8 0,.int .u8 0,.int .u8 0,.int .u8 0,.int .u8 0,.int .u8 0,.int .u8 0,.int .u8 0,.int .u8 0,.int .u8 0,.int .u8 0,.int .u8 0,.int .u8 0,.int .u8 0,.int .u8 0,.int .u8 0,.int .u8 0,.int .u8 0,.int .u8 0,.int .u8 0,.int .u8 0,.int .u8 0,.int .u8 0,.int .u8 0,.int .u8 0,.int .u8 0,.int .u8 0,.int .u8 0,.int .u8 0,.int .u8 0,.int .u8 0,.int .u8 0,.int .u8 0,.int .u8 0,.int .u8 0,.int .u8 0,.int .u8 0,.int .u8 0,.int .u8 0,.int .u8 0,.int .u8 0,.int .u8 0,.int .u8 0,.int .u8 0,.int .u8 0,.int .u8 0,.int .u8 0,.int .u8 0,.int .u8 0,.int .u8 0,.int .u8 0,.int .u8 0,.int .u8 0,.int .u8 0,.int .u8 0,.int .u8 0,.int .u8 0,.int .u8 0,.int .u8 0,.int .u8 0,.int .u8 0,.int .u8 0,.int .u8 0,.int .u8 0,.int .u8 0,.int .u8 0])])
 (.seq (R [0,1] [o 1 (.lalloc [.int .u8 0,.int .u8 0,.int .u8 0,.int .u8 0,.int .u8 0,.int .u8 0,.int .u8 0,.int .u8 0,.int .u8 0,.int .u8 0,.int .u8 0,.int .u8 0,.int .u8 0,.int .u8 0,.int .u8 0,.int .u8 0,.int .u8 0,.int .u8 0,.int .u8 0,.int .u8 0,.int .u8 0,.int .u8 0,.int .u8 0,.int .u8 0,.int .u8 0,.int .u8 0,.int .u8 0,.int .u8 0,.int .u8 0,.int .u8 0,.int .u8 0,.int .u8 0,.int .u8 0,.int .u8 0,.int .u8 0,.int .u8 0,.int .u8 0,.int .u8 0,.int .u8 0,.int .u8 0,.int .u8 0,.int .u8 0,.int .u8 0,.int .u8 0,.int .u8 0,.int .u8 0,.int .u8 0,.int .u8 0,.int .u8 0,.int .u8 0,.int .u8 0,.int .u8 0,.int .u8 0,.int .u8 0,.int .u8 0,.int .u8 0,.int .u8 0,.int .u8 0,.int .u8 0,.int .u8 0,.int .u8 0,.int .u8 0,.int .u8 0,.int .u8 0,.int .u8 0,.int .u8 0,.int .u8 0,.int .u8 0,.int .u8 0,.int .u8 0,.int .u8 0,.int .u8 0,.int .u8 0,.int .u8 0,.int .u8 0,.int .u8 0,.int .u8 0,.int .u8 0,.int .u8 0,.int .u8 0,.int .u8 0,.int .u8 0,.int .u8 0,.int .u8 0,.int .u8 0,.int .u8 0,.int .u8 0,.int .u8 0,.int .u8 0,.int .u8 0,.int .u8 0,.int .u8 0,.int .u8 0,.int .u8 0,.int .u8 0,.int .u8 0,.int .u8 0,.int .u8 0,.int .u8 0,.int .u8 0,.int .u8 0,.int .u8 0,.int .u8 0,.int .u8 0,.int .u8 0,.int .u8 0,.int .u8 0,.int .u8 0,.int .u8 0,.int .u8 0,.int .u8 0,.int .u8 0,.int .u8 0,.int .u8 0,.int .u8 0,.int .u8 0,.int .u8 0,.int .u8 0,.int .u8 0,.int .u8 0,.int .u8 0,.int .u8 0,.int .u8 0,.int .u8 0,.int .u8 0,.int .u8 0,.int .u8 0,.int .u8 0,.int .u8 0,.int .u8 0,.int .u8 0,.int .u8 0,.int .u8 0,.int .u8 0,.int .u8 0,.int .u8 0,.int .u8 0,.int .u8 0,.int .u8 0,.int .u8 0,.int .u8 0,.int .u8 0,.int .u8 0,.int .u8 0,.int .u8 0,.int .u8 0,.int .u8 0,.int .u8 0,.int .u8 0,.int .u8 0,.int .u8 0,.int .u8 0,.int .u8 0,.int .u8 0,.int .u8 0,.int .u8 0,.int .u8 0,.int .u8 0,.int .u8 0,.int .u8 0,.int .u8 0,.int .u8 0,.int .u8 0,.int .u8 0,.int .u8 0,.int .u8 0,.int .u8 0,.int .u8 0,.int .u8 0,.int .u8 0,.int .u8 0,.int .u8 0,.int .u8 0,.int .u8 0,.int .u8 0,.int .u8 0,.int .u8 0,.int .u8 0,.int .u8 0,.int .u8 0,.int .u8 0,.int .u8 0,.int .u8 0,.int .u8 0,.int .u8 0,.int .u8 0,.int .u8 0,.int .u8 0,.int .u8 0,.int .u8 0,.int .u8 0,.int .u8 0,.int .u8 0,.int .u8 0,.int .u8 0,.int .u8 0,.int .u8 0,.int .u8 0,.int .u8 0,.int .u8 0,.int .u8 0,.int .u8 0,.int .u8 0,.int .u8 0,.int .u8 0,.int .u8 0,.int .u8 0,.int .u8 0,.int .u8 0,.int .u8 0,.int .u8 0,.int .u8 0,.int .u8 0,.int .u8 0,.int .u8 0,.int .u8 0,.int .u8 0,.int .u8 0,.int .u8 0,.int .u8 0,.int .u8 0,.int .u8 0,.int .u8 0,.int .u8 0,.int .u8 0,.int .u8 0,.int .u8 0,.int .u8 0,.int .u8 0,.int .u8 0,.int .u8 0,.int .u8 0,.int .u8 0,.int .u8 0,.int .u8 0,.int .u8 0,.int .u8 0,.int .u8 0,.int .u8 0,.int .u8 0,.int .u8 0,.int .u8 0,.int .u8 0,.int .u8 0,.int .u8 0,.int .u8 0,.int .u8 0,.int .u8 0,.int .u8 0,.int .u8 0,.int .u8 0,.int .u8 0,.int .u8 0,.int .u8 0,.int .u8 0,.int .u8 0])])
 (.seq (.seq (R [0,1,5,6,7] [o 5 (.callg 190 []),o 6 (.len .sl (t 5)),o 7 (.val (n 0))])
 (.after (.block 0 (.loop code165L1)) [0,1]))
 (.seq (R [0] [o 27 (.load (some 256) (t 1)),u (.store 256 (t 0) (t 27))])
 (.live [0] (.ret))))),none⟩
def code166:AFunc:=⟨false,false,1,8,[.tmp 2],
 .seq (R [0] [o 2 (.val (n 0))])
 (.seq (.after (.cond F (.seq (R [2] [v 3 0,o 4 (.conv (.int .u32) (t 3)),o 5 (.nextStr F),v 2 5])
 (.live [2] (.ret))) (.skip)) [0])
 (.seq (R [2] [v 6 0,o 7 (.callg 200 [t 6]),v 2 7])
 (.live [2] (.ret)))),none⟩
def code167L0:ACode :=
 .live [0,1,2,3,8,9] (.after (.block 1 (.seq (R [0,1,2,3,8,9,10] [v 19 2,v 20 1,o 21 (.bin .sub (t 19) (t 20)),v 10 21])
 (.seq (.seq (R [0,1,2,3,8,9,10,23] [v 22 10,o 23 (.bin .leq (t 22) (n 12))])
 (.after (.cond (t 23) (.seq (R [] [v 24 0,v 25 1,v 26 2,o 27 (.callg 199 [t 24,t 25,t 26])])
 (.live [] (.ret))) (.skip)) [0,1,2,3,8,9,10]))
 (.seq (.seq (R [0,1,2,3,8,9,10,29] [v 28 3,o 29 (.bin .eql (t 28) (n 0))])
 (.after (.cond (t 29) (.seq (R [] [v 30 0,v 31 1,v 32 2,o 33 (.nextStr F)])
 (.live [] (.ret))) (.skip)) [0,1,2,3,8,9,10]))
 (.seq (.seq (R [0,1,2,3,8,9,10,35] [v 34 8,o 35 (.un .not (t 34))])
 (.after (.cond (t 35) (.seq (R [0,1,2,3,8,9,10] [v 36 0,v 37 1,v 38 2,o 39 (.nextStr F)])
 (R [0,1,2,3,8,9,10] [v 40 3,o 41 (.bin .sub (t 40) (n 1)),v 3 41])) (.skip)) [0,1,2,3,8,9,10]))
 (.seq (R [0,1,2,3,8,9,10,11,12] [v 43 0,v 44 1,v 45 2,o 46 (.nextStr F),v 42 46,o 47 (.extract (t 42) 0),o 48 (.extract (t 42) 1),v 11 47,v 12 48])
 (.seq (.seq (R [0,1,2,3,8,9,10,11,12,50] [v 49 12,o 50 (.bin .eql (t 49) (n 2))])
 (.after (.cond (t 50) (.seq (R [0,1,2,3,8,9,10,11] [v 51 0,v 52 1,v 53 2,o 54 (.nextStr F)])
 (.seq (R [0,1,2,3,8,9,10,11] [v 55 2,o 56 (.bin .sub (t 55) (n 1)),v 57 11,v 58 1,o 59 (.bin .sub (t 57) (t 58)),o 60 (.bin .sub (t 56) (t 59)),v 11 60])
 (R [0,1,2,3,8,9,10,11,12] [o 12 (.val (n 1))]))) (.skip)) [0,1,2,3,8,9,10,11,12]))
 (.seq (.seq (R [0,1,2,3,8,9,10,11,68] [v 61 8,v 62 61,g 63 62 true (.val (t 9)),o 64 (.pick (t 62) (t 63) F),v 65 64,g 66 65 true (.val (t 12)),g 67 65 true (.bin .eql (t 66) (n 1)),o 68 (.pick (t 65) (t 67) F)])
 (.after (.cond (t 68) (.seq (R [0,1,2,3,8,9,10,11,72] [v 69 0,v 70 1,v 71 2,o 72 (.nextStr F)])
 (.after (.cond (t 72) (.live [] (.ret)) (.skip)) [0,1,2,3,8,9,10,11])) (.skip)) [0,1,2,3,8,9,10,11]))
 (.seq (.seq (.after (.region [⟨false,[],[v 73 1,o 74 (.bin .gtr (t 73) (n 0)),v 75 74]⟩,⟨true,[],[g 76 75 true (.val (t 0)),g 77 75 true (.val (t 1)),g 78 75 true (.bin .sub (t 77) (n 1)),g 79 75 true (.iaddr 1 (t 76) (t 78)),g 80 75 true (.load none (t 79)),g 81 75 true (.val (t 0)),g 82 75 true (.val (t 11)),g 83 75 true (.iaddr 1 (t 81) (t 82)),g 84 75 true (.load none (t 83))]⟩,⟨false,[],[g 85 75 true (.callg 193 [t 80,t 84]),g 86 75 true (.un .not (t 85)),o 87 (.pick (t 75) (t 86) F)]⟩]) [0,1,2,3,8,9,10,11,87])
 (.after (.cond (t 87) (.seq (R [0,2,3,8,9,13] [v 88 0,v 89 1,v 90 2,v 91 11,o 92 (.nextStr F),v 13 92])
 (.seq (R [0,1,2,3,8,9] [v 93 13,v 1 93])
 (.live [0,1,2,3,8,9] (.exit 1)))) (.skip)) [0,1,2,3,10,11]))
 (.seq (R [0,1,2,3,10,14,15] [v 95 0,v 96 1,v 97 2,v 98 11,o 99 (.nextStr F),v 94 99,o 100 (.extract (t 94) 0),o 101 (.extract (t 94) 1),v 14 100,v 15 101])
 (.seq (R [0,1,2,3,9,10,14] [v 102 15,v 9 102])
 (.seq (R [0,1,2,3,9,10,14,16,17] [v 103 14,v 104 1,o 105 (.bin .sub (t 103) (t 104)),v 106 2,v 107 14,o 108 (.bin .sub (t 106) (t 107)),v 16 105,v 17 108])
 (.seq (R [0,1,2,3,9,14,16,17,18] [v 109 10,o 110 (.bin .quo (t 109) (n 8)),v 18 110])
 (.seq (R [0,1,2,3,9,14,16,17,18,113] [v 111 16,v 112 17,o 113 (.bin .lss (t 111) (t 112))])
 (.after (.cond (t 113) (.seq (R [0,1,2,3,8,9,14] [v 114 16,v 115 18,o 116 (.bin .geq (t 114) (t 115)),v 8 116])
 (.seq (R [0,2,3,8,9,14] [v 117 0,v 118 1,v 119 14,v 120 3,o 121 (.callg 167 [t 117,t 118,t 119,t 120])])
 (R [0,1,2,3,8,9] [v 122 14,o 123 (.bin .add (t 122) (n 1)),v 1 123]))) (.seq (R [0,1,2,3,8,9,14] [v 124 17,v 125 18,o 126 (.bin .geq (t 124) (t 125)),v 8 126])
 (.seq (R [0,1,3,8,9,14] [v 127 0,v 128 14,o 129 (.bin .add (t 128) (n 1)),v 130 2,v 131 3,o 132 (.callg 167 [t 127,t 129,t 130,t 131])])
 (R [0,1,2,3,8,9] [v 133 14,v 2 133])))) [0,1,2,3,8,9]))))))))))))))) [0,1,2,3,8,9])
def code167:AFunc:=⟨false,false,4,134,[],
 .seq (R [0,1,2,3,8] [o 8 (.val Y)])
 (.seq (R [0,1,2,3,8,9] [o 9 (.val Y)])
 (.after (.block 0 (.loop code167L0)) [])),none⟩
def code190:AFunc:=⟨false,false,0,40,[.tmp 0],
 .seq (R [] [o 0 (.val (.const (.slice none 0 (some 0))))])
 (.seq (R [0] [o 1 (.build [.int .u8 0,.int .u8 0,.int .i64 0] [(0,1,.const (.int .u8 0)),(1,1,.const (.int .u8 10)),(2,1,n 1)]),o 2 (.build [.int .u8 0,.int .u8 0,.int .i64 0] [(0,1,.const (.int .u8 16)),(1,1,.const (.int .u8 16)),(2,1,n 3)]),o 3 (.build [.int .u8 0,.int .u8 0,.int .i64 0] [(0,1,.const (.int .u8 17)),(1,1,.const (.int .u8 17)),(2,1,n 4)]),o 4 (.build [.int .u8 0,.int .u8 0,.int .i64 0] [(0,1,.const (.int .u8 18)),(1,1,.const (.int .u8 18)),(2,1,n 5)]),o 5 (.build [.int .u8 0,.int .u8 0,.int .i64 0] [(0,1,.const (.int .u8 20)),(1,1,.const (.int .u8 20)),(2,1,n 6)]),o 6 (.build [.int .u8 0,.int .u8 0,.int .i64 0] [(0,1,.const (.int .u8 21)),(1,1,.const (.int .u8 22)),(2,1,n 2)]),o 7 (.build [.int .u8 0,.int .u8 0,.int .i64 0] [(0,1,.const (.int .u8 25)),(1,1,.const (.int .u8 25)),(2,1,n 2)]),o 8 (.build [.int .u8 0,.int .u8 0,.int .i64 0] [(0,1,.const (.int .u8 46)),(1,1,.const (.int .u8 46)),(2,1,n 1)]),o 9 (.build [.int .u8 0,.int .u8 0,.int .i64 0] [(0,1,.const (.int .u8 50)),(1,1,.const (.int .u8 51)),(2,1,n 1)]),o 10 (.build [.int .u8 0,.int .u8 0,.int .i64 0] [(0,1,.const (.int .u8 54)),(1,1,.const (.int .u8 55)),(2,1,n 2)]),o 11 (.build [.int .u8 0,.int .u8 0,.int .i64 0] [(0,1,.const (.int .u8 58)),(1,1,.const (.int .u8 58)),(2,1,n 2)]),o 12 (.build [.int .u8 0,.int .u8 0,.int .i64 0] [(0,1,.const (.int .u8 79)),(1,1,.const (.int .u8 79)),(2,1,n 1)]),o 13 (.build [.int .u8 0,.int .u8 0,.int .i64 0] [(0,1,.const (.int .u8 83)),(1,1,.const (.int .u8 84)),(2,1,n 1)]),o 14 (.build [.int .u8 0,.int .u8 0,.int .i64 0] [(0,1,.const (.int .u8 87)),(1,1,.const (.int .u8 87)),(2,1,n 1)]),o 15 (.build [.int .u8 0,.int .u8 0,.int .i64 0] [(0,1,.const (.int .u8 89)),(1,1,.const (.int .u8 89)),(2,1,n 1)]),o 16 (.build [.int .u8 0,.int .u8 0,.int .i64 0] [(0,1,.const (.int .u8 95)),(1,1,.const (.int .u8 97)),(2,1,n 1)]),o 17 (.build [.int .u8 0,.int .u8 0,.int .i64 0] [(0,1,.const (.int .u8 100)),(1,1,.const (.int .u8 101)),(2,1,n 1)]),o 18 (.build [.int .u8 0,.int .u8 0,.int .i64 0] [(0,1,.const (.int .u8 104)),(1,1,.const (.int .u8 105)),(2,1,n 1)]),o 19 (.build [.int .u8 0,.int .u8 0,.int .i64 0] [(0,1,.const (.int .u8 108)),(1,1,.const (.int .u8 109)),(2,1,n 1)]),o 20 (.build [.int .u8 0,.int .u8 0,.int .i64 0] [(0,1,.const (.int .u8 112)),(1,1,.const (.int .u8 113)),(2,1,n 1)]),o 21 (.build [.int .u8 0,.int .u8 0,.int .i64 0] [(0,1,.const (.int .u8 116)),(1,1,.const (.int .u8 117)),(2,1,n 1)]),o 22 (.build [.int .u8 0,.int .u8 0,.int .i64 0] [(0,1,.const (.int .u8 120)),(1,1,.const (.int .u8 131)),(2,1,n 1)]),o 23 (.build [.int .u8 0,.int .u8 0,.int .i64 0] [(0,1,.const (.int .u8 132)),(1,1,.const (.int .u8 132)),(2,1,n 8)]),o 24 (.build [.int .u8 0,.int .u8 0,.int .i64 0] [(0,1,.const (.int .u8 133)),(1,1,.const (.int .u8 133)),(2,1,n 1)]),o 25 (.build [.int .u8 0,.int .u8 0,.int .i64 0] [(0,1,.const (.int .u8 136)),(1,1,.const (.int .u8 136)),(2,1,n 1)]),o 26 (.build [.int .u8 0,.int .u8 0,.int .i64 0] [(0,1,.const (.int .u8 145)),(1,1,.const (.int .u8 145)),(2,1,n 1)]),o 27 (.build [.int .u8 0,.int .u8 0,.int .i64 0] [(0,1,.const (.int .u8 148)),(1,1,.const (.int .u8 148)),(2,1,n 1)]),o 28 (.build [.int .u8 0,.int .u8 0,.int .i64 0] [(0,1,.const (.int .u8 153)),(1,1,.const (.int .u8 167)),(2,1,n 7)]),o 29 (.build [.int .u8 0,.int .u8 0,.int .i64 0] [(0,1,.const (.int .u8 172)),(1,1,.const (.int .u8 173)),(2,1,n 1)]),o 30 (.build [.int .u8 0,.int .u8 0,.int .i64 0] [(0,1,.const (.int .u8 176)),(1,1,.const (.int .u8 177)),(2,1,n 1)]),o 31 (.build [.int .u8 0,.int .u8 0,.int .i64 0] [(0,1,.const (.int .u8 178)),(1,1,.const (.int .u8 182)),(2,1,n 6)]),o 32 (.build [.int .u8 0,.int .u8 0,.int .i64 0] [(0,1,.const (.int .u8 184)),(1,1,.const (.int .u8 184)),(2,1,n 6)]),o 33 (.build [.int .u8 0,.int .u8 0,.int .i64 0] [(0,1,.const (.int .u8 187)),(1,1,.const (.int .u8 187)),(2,1,n 6)]),o 34 (.build [.int .u8 0,.int .u8 0,.int .i64 0] [(0,1,.const (.int .u8 188)),(1,1,.const (.int .u8 188)),(2,1,n 9)]),o 35 (.build [.int .u8 0,.int .u8 0,.int .i64 0] [(0,1,.const (.int .u8 189)),(1,1,.const (.int .u8 189)),(2,1,n 6)]),o 36 (.build [.int .u8 0,.int .u8 0,.int .i64 0] [(0,1,.const (.int .u8 190)),(1,1,.const (.int .u8 191)),(2,1,n 1)]),o 37 (.build [.int .u8 0,.int .u8 0,.int .i64 0] [(0,1,.const (.int .u8 192)),(1,1,.const (.int .u8 193)),(2,1,n 6)]),o 38 (.build [.int .u8 0,.int .u8 0,.int .i64 0] [(0,1,.const (.int .u8 198)),(1,1,.const (.int .u8 199)),(2,1,n 7)]),o 39 (.mkslice 3 38 [.int .u8 0,.int .u8 0,.int .i64 0,.int .u8 0,.int .u8 0,.int .i64 0,.int .u8 0,.int .u8 0,.int .i64 0,.int .u8 0,.int .u8 0,.int .i64 0,.int .u8 0,.int .u8 0,.int .i64 0,.int .u8 0,.int .u8 0,.int .i64 0,.int .u8 0,.int .u8 0,.int .i64 0,.int .u8 0,.int .u8 0,.int .i64 0,.int .u8 0,.int .u8 0,.int .i64 0,.int .u8 0,.int .u8 0,.int .i64 0,.int .u8 0,.int .u8 0,.int .i64 0,.int .u8 0,.int .u8 0,.int .i64 0,.int .u8 0,.int .u8 0,.int .i64 0,.int .u8 0,.int .u8 0,.int .i64 0,.int .u8 0,.int .u8 0,.int .i64 0,.int .u8 0,.int .u8 0,.int .i64 0,.int .u8 0,.int .u8 0,.int .i64 0,.int .u8 0,.int .u8 0,.int .i64 0,.int .u8 0,.int .u8 0,.int .i64 0,.int .u8 0,.int .u8 0,.int .i64 0,.int .u8 0,.int .u8 0,.int .i64 0,.int .u8 0,.int .u8 0,.int .i64 0,.int .u8 0,.int .u8 0,.int .i64 0,.int .u8 0,.int .u8 0,.int .i64 0,.int .u8 0,.int .u8 0,.int .i64 0,.int .u8 0,.int .u8 0,.int .i64 0,.int .u8 0,.int .u8 0,.int .i64 0,.int .u8 0,.int .u8 0,.int .i64 0,.int .u8 0,.int .u8 0,.int .i64 0,.int .u8 0,.int .u8 0,.int .i64 0,.int .u8 0,.int .u8 0,.int .i64 0,.int .u8 0,.int .u8 0,.int .i64 0,.int .u8 0,.int .u8 0,.int .i64 0,.int .u8 0,.int .u8 0,.int .i64 0,.int .u8 0,.int .u8 0,.int .i64 0,.int .u8 0,.int .u8 0,.int .i64 0,.int .u8 0,.int .u8 0,.int .i64 0,.int .u8 0,.int .u8 0,.int .i64 0] [(0,3,t 1),(3,3,t 2),(6,3,t 3),(9,3,t 4),(12,3,t 5),(15,3,t 6),(18,3,t 7),(21,3,t 8),(24,3,t 9),(27,3,t 10),(30,3,t 11),(33,3,t 12),(36,3,t 13),(39,3,t 14),(42,3,t 15),(45,3,t 16),(48,3,t 17),(51,3,t 18),(54,3,t 19),(57,3,t 20),(60,3,t 21),(63,3,t 22),(66,3,t 23),(69,3,t 24),(72,3,t 25),(75,3,t 26),(78,3,t 27),(81,3,t 28),(84,3,t 29),(87,3,t 30),(90,3,t 31),(93,3,t 32),(96,3,t 33),(99,3,t 34),(102,3,t 35),(105,3,t 36),(108,3,t 37),(111,3,t 38)]),v 0 39])
 (.live [0] (.ret))),none⟩
def code193:AFunc:=⟨false,false,2,17,[.tmp 4],
 .seq (R [0,1] [o 4 (.val F)])
 (.seq (R [4] [v 5 0,o 6 (.callg 217 [t 5]),v 7 6,g 8 7 true (.val (t 1)),g 9 7 true (.callg 217 [t 8]),g 10 7 true (.un .not (t 9)),o 11 (.pick (t 7) (t 10) F),v 12 11,g 13 12 false (.val (t 0)),g 14 12 false (.val (t 1)),g 15 12 false (.bin .lss (t 13) (t 14)),o 16 (.pick (t 12) Y (t 15)),v 4 16])
 (.live [4] (.ret))),none⟩
def code199L0:ACode :=
 .live [0,1,2,6,7] (.seq (.seq (.after (.region [⟨true,[],[v 16 7,v 17 1]⟩,⟨false,[],[o 18 (.bin .gtr (t 16) (t 17)),v 19 18]⟩,⟨true,[],[g 20 19 true (.val (t 0)),g 21 19 true (.val (t 7)),g 22 19 true (.iaddr 1 (t 20) (t 21)),g 23 19 true (.load none (t 22)),g 24 19 true (.val (t 0)),g 25 19 true (.val (t 7)),g 26 19 true (.bin .sub (t 25) (n 1)),g 27 19 true (.iaddr 1 (t 24) (t 26)),g 28 19 true (.load none (t 27))]⟩,⟨false,[],[g 29 19 true (.callg 193 [t 23,t 28]),o 30 (.pick (t 19) (t 29) F)]⟩]) [0,1,2,6,7,30])
 (.after (.cond (t 30) (.skip) (.live [0,1,2,6] (.exit 2))) [0,1,2,6,7]))
 (.seq (.after (.block 3 (.after (.region [⟨true,[0,0,0,0,8,0,0,64,224,480,0,0,3072,7168,16355,32739],[v 33 0,v 34 7,v 35 0,v 36 7,o 37 (.bin .sub (t 36) (n 1)),v 38 0,v 39 7,o 40 (.bin .sub (t 39) (n 1)),o 41 (.iaddr 1 (t 38) (t 40)),o 42 (.load none (t 41)),v 43 0,v 44 7,o 45 (.iaddr 1 (t 43) (t 44)),o 46 (.load none (t 45)),o 47 (.iaddr 1 (t 33) (t 34)),u (.ext (.hstore 1) [t 47,t 42])]⟩,⟨false,[],[o 48 (.iaddr 1 (t 35) (t 37)),u (.store 1 (t 48) (t 46))]⟩]) [0,1,2,6,7])) [0,1,2,6,7])
 (R [0,1,2,6,7] [v 31 7,o 32 (.bin .sub (t 31) (n 1)),v 7 32])))
def code199L1:ACode :=
 .live [0,1,2,6] (.seq (.seq (R [0,1,2,6,12] [v 10 6,v 11 2,o 12 (.bin .lss (t 10) (t 11))])
 (.after (.cond (t 12) (.skip) (.live [] (.exit 0))) [0,1,2,6]))
 (.seq (.after (.block 1 (.seq (R [0,1,2,6,7] [v 15 6,v 7 15])
 (.after (.block 2 (.loop code199L0)) [0,1,2,6]))) [0,1,2,6])
 (R [0,1,2,6] [v 13 6,o 14 (.bin .add (t 13) (n 1)),v 6 14])))
def code199:AFunc:=⟨false,false,3,49,[],
 .seq (R [0,1,2,6] [v 8 1,o 9 (.bin .add (t 8) (n 1)),v 6 9])
 (.after (.block 0 (.loop code199L1)) []),none⟩
def code200:AFunc:=⟨false,false,1,25,[.tmp 2],
 .seq (R [0,2] [o 2 (.val (n 0))])
 (.seq (.seq (R [0,2,4] [v 3 0,o 4 (.bin .geq (t 3) (.const (.int .u64 4294967296)))])
 (.after (.cond (t 4) (.seq (R [0] [v 5 0,o 6 (.bin .shr (t 5) (.const (.int .u64 32))),v 0 6])
 (R [0,2] [o 2 (.val (n 32))])) (.skip)) [0,2]))
 (.seq (.seq (R [0,2,8] [v 7 0,o 8 (.bin .geq (t 7) (.const (.int .u64 65536)))])
 (.after (.cond (t 8) (.seq (R [0,2] [v 9 0,o 10 (.bin .shr (t 9) (.const (.int .u64 16))),v 0 10])
 (R [0,2] [v 11 2,o 12 (.bin .add (t 11) (n 16)),v 2 12])) (.skip)) [0,2]))
 (.seq (.seq (R [0,2,14] [v 13 0,o 14 (.bin .geq (t 13) (.const (.int .u64 256)))])
 (.after (.cond (t 14) (.seq (R [0,2] [v 15 0,o 16 (.bin .shr (t 15) (.const (.int .u64 8))),v 0 16])
 (R [0,2] [v 17 2,o 18 (.bin .add (t 17) (n 8)),v 2 18])) (.skip)) [0,2]))
 (.seq (R [2] [v 19 2,v 20 0,o 21 (.conv (.int .u8) (t 20)),o 22 (.index (.const (.str [0,1,2,2,3,3,3,3,4,4,4,4,4,4,4,4,5,5,5,5,5,5,5,5,5,5,5,5,5,5,5,5,6,6,6,6,6,6,6,6,6,6,6,6,6,6,6,6,6,6,6,6,6,6,6,6,6,6,6,6,6,6,6,6,7,7,7,7,7,7,7,7,7,7,7,7,7,7,7,7,7,7,7,7,7,7,7,7,7,7,7,7,7,7,7,7,7,7,7,7,7,7,7,7,7,7,7,7,7,7,7,7,7,7,7,7,7,7,7,7,7,7,7,7,7,7,7,7,8,8,8,8,8,8,8,8,8,8,8,8,8,8,8,8,8,8,8,8,8,8,8,8,8,8,8,8,8,8,8,8,8,8,8,8,8,8,8,8,8,8,8,8,8,8,8,8,8,8,8,8,8,8,8,8,8,8,8,8,8,8,8,8,8,8,8,8,8,8,8,8,8,8,8,8,8,8,8,8,8,8,8,8,8,8,8,8,8,8,8,8,8,8,8,8,8,8,8,8,8,8,8,8,8,8,8,8,8,8,8,8,8,8,8,8,8,8,8,8,8,8,8,8,8,8,8,8])) (t 21)),o 23 (.conv (.int .i64) (t 22)),o 24 (.bin .add (t 19) (t 23)),v 2 24])
 (.live [2] (.ret)))))),none⟩
def code217:AFunc:=⟨false,false,1,6,[.tmp 2],
 .seq (R [0] [o 2 (.val F)])
 (.seq (R [2] [v 3 0,v 4 0,o 5 (.bin .neq (t 3) (t 4)),v 2 5])
 (.live [2] (.ret))),none⟩
def code100074:AFunc:=⟨false,false,2,52,[.tmp 4],
 .seq (R [1,2] [o 2 (.lbox (t 0)),o 4 (.val (.const (.slice none 0 (some 0))))])
 (.seq (.seq (R [1,2,10] [o 7 (.load (some 8) (t 2)),v 8 1,o 9 (.callg 131 [t 7,t 8]),o 10 (.un .not (t 9))])
 (.after (.cond (t 10) (.seq (R [4] [o 4 (.val (.const (.slice none 0 (some 0))))])
 (.live [4] (.ret))) (.skip)) [1,2]))
 (.seq (R [1,2,5] [o 11 (.faddr (t 2) 5),o 12 (.load none (t 11)),v 13 1,o 14 (.iaddr 7 (t 12) (t 13)),o 15 (.load (some 7) (t 14)),o 5 (.lalloc [.int .u8 0,.int .i64 0,.int .i64 0,.str [],.str [],.str [],.str []]),u (.store 7 (t 5) (t 15))])
 (.seq (R [1,2,5,6] [o 6 (.val (.const (.slice none 0 (some 0))))])
 (.seq (.seq (R [1,2,5,6,27] [o 16 (.faddr (t 5) 0),o 17 (.load none (t 16)),o 18 (.callg 73 [t 17]),o 19 (.un .not (t 18)),v 20 19,g 21 20 true (.val (t 1)),g 22 20 true (.bin .add (t 21) (n 1)),g 23 20 true (.faddr (t 2) 5),g 24 20 true (.load none (t 23)),g 25 20 true (.len .sl (t 24)),g 26 20 true (.bin .lss (t 22) (t 25)),o 27 (.pick (t 20) (t 26) F)])
 (.after (.cond (t 27) (R [2,5,6] [v 28 6,v 29 1,o 30 (.bin .add (t 29) (n 1)),o 31 (.mkslice 1 1 [.int .i64 0] [(0,1,t 30)]),o 32 (.append 1 8 (t 28) (t 31)),v 6 32]) (.skip)) [2,5,6]))
 (.seq (.seq (R [5,6,42] [o 33 (.faddr (t 5) 0),o 34 (.load none (t 33)),o 35 (.callg 130 [t 34]),o 36 (.bin .eql (t 35) (n 7)),v 37 36,g 38 37 true (.load (some 8) (t 2)),g 39 37 true (.faddr (t 5) 1),g 40 37 true (.load none (t 39)),g 41 37 true (.callg 131 [t 38,t 40]),o 42 (.pick (t 37) (t 41) F)])
 (.after (.cond (t 42) (R [6] [v 43 6,o 44 (.faddr (t 5) 1),o 45 (.load none (t 44)),o 46 (.mkslice 1 1 [.int .i64 0] [(0,1,t 45)]),o 47 (.append 1 8 (t 43) (t 46)),v 6 47]) (.skip)) [6]))
 (.seq (R [6] [v 48 6,o 49 (.callg 129 [t 48])])
 (.seq (R [4] [v 50 6,o 51 (.callg 128 [t 50]),v 4 51])
 (.live [4] (.ret))))))))),none⟩
def T:Nat→Option AFunc:=fun g=>match AbsOrd.T g with
 | some f=>some f
 | none=>List.lookup g [(71,code71),(73,code73),(76,code76),(77,code77),(78,code78),(123,code123),(124,code124),(125,code125),(126,code126),(127,code127),(128,code128),(129,code129),(130,code130),(131,code131),(132,code132),(133,code133),(164,code164),(165,code165),(166,code166),(167,code167),(190,code190),(193,code193),(199,code199),(200,code200),(217,code217),(100074,code100074)]
theorem sub:∀ g f,AbsOrd.T g=some f→T g=some f:=fun g f h=>by unfold T; rw [h]
theorem t71:T 71=some code71:=rfl
theorem t73:T 73=some code73:=rfl
theorem t76:T 76=some code76:=rfl
theorem t77:T 77=some code77:=rfl
theorem t78:T 78=some code78:=rfl
theorem t123:T 123=some code123:=rfl
theorem t124:T 124=some code124:=rfl
theorem t125:T 125=some code125:=rfl
theorem t126:T 126=some code126:=rfl
theorem t127:T 127=some code127:=rfl
theorem t128:T 128=some code128:=rfl
theorem t129:T 129=some code129:=rfl
theorem t130:T 130=some code130:=rfl
theorem t131:T 131=some code131:=rfl
theorem t132:T 132=some code132:=rfl
theorem t133:T 133=some code133:=rfl
theorem t164:T 164=some code164:=rfl
theorem t165:T 165=some code165:=rfl
theorem t166:T 166=some code166:=rfl
theorem t167:T 167=some code167:=rfl
theorem t190:T 190=some code190:=rfl
theorem t193:T 193=some code193:=rfl
theorem t199:T 199=some code199:=rfl
theorem t200:T 200=some code200:=rfl
theorem t217:T 217=some code217:=rfl
theorem t100074:T 100074=some code100074:=rfl
end Go.Abs.AbsFlow

namespace Go.Abs.AbsDesc
variable {os:List AObj} {b w:Nat}
def parts (c:UInt8):List UInt8→List (List UInt8)
 | []=>[[]]
 | x :: r=>if x == c then [] :: parts c r else match parts c r with
  | p :: ps=>(x :: p) :: ps
  | []=>[[x]]
theorem parts_ne (c:UInt8):∀ s,parts c s≠[]
 | []=>by simp [parts]
 | x :: r=>by
  simp only [parts]
  split
  ·simp
  ·split <;> simp
theorem parts_length (c:UInt8):∀ s,(parts c s).length=Lib.countByte s c+1
 | []=>rfl
 | x :: r=>by
  have ih:=parts_length c r
  simp only [parts,Lib.countByte,List.count_cons] at ih ⊢
  split
  ·rw [bp,ih]
  ·split
   ·rename_i p ps hp
    rw [hp] at ih
    simpa using ih
   ·rename_i hp
    exact absurd hp (parts_ne c r)
theorem parts_none {c:UInt8}:∀ {s:List UInt8},Lib.indexByte s c < 0→parts c s=[s]
 | [],_=>rfl
 | x :: r,h=>by
  unfold Lib.indexByte at h
  simp only [parts]
  split at h
  ·omega
  ·rename_i hx
   rw [if_neg hx]
   have:Lib.indexByte r c < 0:=by
    split at h
    ·rename_i e; simp at e; omega
    ·have:=Lib.indexByte_ge r c; rename_i e; simp at e; omega
   rw [parts_none this]
theorem parts_some {c:UInt8}:∀ {s:List UInt8} {k:Nat},Lib.indexByte s c=k→k < s.length∧parts c s=s.take k :: parts c (s.drop (k+1))
 | [],k,h=>by simp [Lib.indexByte] at h
 | x :: r,k,h=>by
  unfold Lib.indexByte at h
  simp only [parts]
  split at h
  ·rename_i hx
   have:k=0:=by omega
   subst this
   rw [if_pos hx]
   simp
  ·rename_i hx
   rw [if_neg hx]
   have hge:=Lib.indexByte_ge r c
   split at h
   ·omega
   ·cases k with
    | zero=>rename_i e; simp at e; omega
    | succ k =>
     obtain ⟨h1,h2⟩:=parts_some (s:=r) (k:=k) (c:=c) (by omega)
     rw [h2]
     simp [h1]
def rest (c:UInt8) (s:List UInt8):Nat→List UInt8
 | 0=>s
 | i+1=>(rest c s i).drop ((Lib.indexByte (rest c s i) c).toNat+1)
theorem rest_parts {c:UInt8} {s:List UInt8}:∀ i,i < (parts c s).length→parts c (rest c s i)=(parts c s).drop i∧(rest c s i).length≤s.length
 | 0,_=>⟨rfl,aj _⟩
 | i+1,hi=>by
  obtain ⟨h1,h2⟩:=rest_parts (c:=c) (s:=s) i (by omega)
  rcases (show Lib.indexByte (rest c s i) c < 0∨0≤Lib.indexByte (rest c s i) c by omega) with h | h
  ·rw [parts_none h] at h1
   have:=congrArg List.length h1
   simp at this
   omega
  ·obtain ⟨k,hk⟩:=eu h
   obtain ⟨h3,h4⟩:=parts_some hk
   rw [h4] at h1
   have h5:=congrArg List.tail h1
   simp only [List.tail_cons,List.tail_drop] at h5
   refine ⟨?_,?_⟩
   ·simp only [rest,hk,Int.toNat_natCast]
    exact h5
   ·simp only [rest,iq]; omega
theorem rest_next {c:UInt8} {s:List UInt8} {i:Nat} (hi:i+1 < (parts c s).length):∃ k:Nat,Lib.indexByte (rest c s i) c=k∧k < (rest c s i).length∧(parts c s)[i]? = some ((rest c s i).take k)∧rest c s (i+1)=(rest c s i).drop (k+1):=by
 obtain ⟨h1,h2⟩:=rest_parts (c:=c) (s:=s) i (by omega)
 rcases (show Lib.indexByte (rest c s i) c < 0∨0≤Lib.indexByte (rest c s i) c by omega) with h | h
 ·rw [parts_none h] at h1
  have:=congrArg List.length h1
  simp at this
  omega
 ·obtain ⟨k,hk⟩:=eu h
  obtain ⟨h3,h4⟩:=parts_some hk
  rw [h4] at h1
  refine ⟨k,hk,h3,?_,by simp [rest,hk]⟩
  have:=congrArg (fun l=>l[0]?) h1
  simp only [bi,c9,fm] at this
  exact this.symm
theorem rest_last {c:UInt8} {s:List UInt8} {i:Nat} (hi:i+1=(parts c s).length):(parts c s)[i]? = some (rest c s i):=by
 obtain ⟨h1,h2⟩:=rest_parts (c:=c) (s:=s) i (by omega)
 rcases (show Lib.indexByte (rest c s i) c < 0∨0≤Lib.indexByte (rest c s i) c by omega) with h | h
 ·rw [parts_none h] at h1
  have:=congrArg (fun l=>l[0]?) h1
  simp only [bi,c9,fm] at this
  exact this.symm
 ·obtain ⟨k,hk⟩:=eu h
  obtain ⟨h3,h4⟩:=parts_some hk
  rw [h4] at h1
  have hlen:=congrArg List.length h1
  have hpos:0 < (parts c ((rest c s i).drop (k+1))).length:=List.length_pos_iff.2 (parts_ne c _)
  simp only [bp,iq] at hlen
  omega
end Go.Abs.AbsDesc

namespace Go.Abs.AbsDesc
variable {os:List AObj} {b w:Nat}
def mem (L:List (List UInt8)) (i:Nat):List AVal:=(L.take i).map AVal.str++List.replicate (L.length - i) (.str [])
theorem mem_len {L:List (List UInt8)} {i:Nat} (h:i≤L.length):(mem L i).length=L.length:=by
 simp [mem]; omega
theorem mem_set {L:List (List UInt8)} {i:Nat} {x:List UInt8} (h:L[i]? = some x):splice (mem L i) i [.str x]=mem L (i+1):=by
 have hi:=ah h
 have h1:((L.take i).map AVal.str).length=i:=by simp; omega
 have h2:L.length - i=(L.length - (i+1))+1:=by omega
 unfold splice mem
 rw [List.take_left' h1,h2,List.replicate_succ,List.drop_append,h1]
 rw [ei (by rw [h1]; simp),List.take_add_one,h]
 simp
theorem mem_all (L:List (List UInt8)):mem L L.length=L.map AVal.str:=by simp [mem]
theorem mem_zero (n:Nat) (L:List (List UInt8)) (h:L.length=n):rep n [.str []]=mem L 0:=by
 subst h
 have:∀ n:Nat,(List.replicate n [AVal.str []]).flatten=List.replicate n (.str []):=by
  intro n
  induction n with
  | zero=>rfl
  | succ n ih=>rw [List.replicate_succ,List.flatten_cons,ih]; rfl
 unfold rep mem
 rw [this]
 simp
theorem count_le (c:UInt8) (s:List UInt8):Lib.countByte s c≤s.length:=List.count_le_length
theorem split_loop {s:List UInt8} {c:UInt8} (hn:s.length≤1000000) (hb:b≤os.length) :
  xCode T (.loop code143L0) ⟨[(0,.val (.str s)),(1,.val (.str [c])),(2,.val (.int .i64 0)),(3,.val (.int .i64 (Lib.countByte s c))),(9,.val (.slice (some (os.length,0)) (Lib.countByte s c+1) (some (Lib.countByte s c+1)))),(10,.val (.int .i64 (0:Nat)))],⟨os++[.cells 1 (mem (parts c s) 0)],b,os.length⟩⟩ =
   some (.exit 0,⟨[(0,.val (.str (rest c s (Lib.countByte s c)))),(9,.val (.slice (some (os.length,0)) (Lib.countByte s c+1) (some (Lib.countByte s c+1)))),(10,.val (.int .i64 (Lib.countByte s c)))],⟨os++[.cells 1 (mem (parts c s) (Lib.countByte s c))],b,os.length⟩⟩):=by
 have hlen:=parts_length c s
 have hcnt:=count_le c s
 refine loop_all (e:=.exit 0) (fun i=>⟨[(0,.val (.str (rest c s i))),(1,.val (.str [c])),(2,.val (.int .i64 0)),(3,.val (.int .i64 (Lib.countByte s c))),(9,.val (.slice (some (os.length,0)) (Lib.countByte s c+1) (some (Lib.countByte s c+1)))),(10,.val (.int .i64 i))],⟨os++[.cells 1 (mem (parts c s) i)],b,os.length⟩⟩) (Lib.countByte s c) ?_ (by simp) ?_
 ·intro i hi
  obtain ⟨k,h1,h2,h3,h4⟩:=rest_next (c:=c) (s:=s) (i:=i) (by omega)
  have hrl:=(rest_parts (c:=c) (s:=s) i (by omega)).2
  have hm:=mem_set h3
  have hml:=mem_len (L:=parts c s) (i:=i) (by omega)
  have hi':(i:Int) < (Lib.countByte s c:Int):=by omega
  have hge:(0:Int)≤i:=by omega
  have hk0:¬ ((k:Int) < 0):=by omega
  have hk1:(k:Int)≤((rest c s i).length:Int):=by omega
  have hk2:IntKind.i64.wrap ((k:Int)+0)=(k:Int):=by rw [wrap64 (by omega) (by omega)]; omega
  have hk3:IntKind.i64.wrap ((k:Int)+1)=((k+1:Nat):Int):=by rw [wrap64 (by omega) (by omega)]; omega
  have hk3':IntKind.i64.wrap ((k:Int))=(k:Int):=by rw [wrap64 (by omega) (by omega)]
  have hw:=wrap_next (i:=i) (n:=Lib.countByte s c) hi (by omega)
  have hi1:(i:Int) < (Lib.countByte s c:Int)+1:=by omega
  have hil:i+1≤(parts c s).length:=by omega
  have hk4:(k:Int)+1≤((rest c s i).length:Int):=by omega
  have hk5:(0:Int)≤(k:Int)+1:=by omega
  have htk:List.take ((rest c s i).length - (k+1)) (List.drop (k+1) (rest c s i))=List.drop (k+1) (rest c s i):=List.take_of_length_le (by simp)
  have hm':List.take i (mem (parts c s) i)++AVal.str (List.take k (rest c s i)) :: List.drop (i+1) (mem (parts c s) i)=mem (parts c s) (i+1):=by simpa [splice] using hm
  simp only [h4]
  simp [code143L0,hi',hge,s173,h1,hk0,hk1,hk2,hk3,hk3',hw,hi1,hb,hil,hml,hm',hk4,hk5,htk]
  done
 ·simp [code143L0]
end Go.Abs.AbsDesc

namespace Go.Abs.AbsDesc
variable {os:List AObj} {b w:Nat}
theorem ids_strs:∀ L:List (List UInt8),AVal.idsL (L.map AVal.str)=[]
 | []=>rfl
 | x :: L=>by
  rw [cr]
  simp only [AVal.idsL,AVal.ids,ids_strs L]
  rfl
theorem ren_strs (f:Nat→Nat):∀ L:List (List UInt8),AVal.renL f (L.map AVal.str)=L.map AVal.str
 | []=>rfl
 | x :: L=>by
  rw [cr]
  simp only [AVal.renL,AVal.ren,ren_strs f L]
theorem s143 {s:List UInt8} {c:UInt8} (hn:s.length≤1000000) (hb:b≤os.length) :
  xCall T 143 [.str s,.str [c],.int .i64 0,.int .i64 (-1)] ⟨os,b,w⟩ =
   some (.slice (some (os.length,0)) (parts c s).length (some (parts c s).length),⟨os++[.cells 1 ((parts c s).map AVal.str)],b,w⟩):=by
 have hlen:=parts_length c s
 have hcnt:=count_le c s
 have hl:=split_loop (os:=os) (c:=c) hn hb
 have hz:=mem_zero (Lib.countByte s c+1) (parts c s) hlen
 have hlast:=mem_set (rest_last (c:=c) (s:=s) (i:=Lib.countByte s c) hlen.symm)
 rw [← hlen,mem_all] at hlast
 have hml:=mem_len (L:=parts c s) (i:=Lib.countByte s c) (by omega)
 have hlast':List.take (Lib.countByte s c) (mem (parts c s) (Lib.countByte s c))++AVal.str (rest c s (Lib.countByte s c)) :: List.drop (Lib.countByte s c+1) (mem (parts c s) (Lib.countByte s c))=(parts c s).map AVal.str:=by simpa [splice] using hlast
 have h174:=fun h=>s174 (s:=s) (c:=c) (h:=h)
 rw [hlen]
 generalize Lib.countByte s c=n at *
 have hw1:IntKind.i64.wrap ((n:Int)+1)=((n+1:Nat):Int):=by rw [wrap64 (by omega) (by omega)]; omega
 have hw2:IntKind.i64.wrap ((s.length:Int)+1)=((s.length+1:Nat):Int):=by rw [wrap64 (by omega) (by omega)]; omega
 have hw3:IntKind.i64.wrap (((n:Int)+1) - 1)=(n:Int):=by rw [wrap64 (by omega) (by omega)]; omega
 have hw4:IntKind.i64.wrap (n:Int)=(n:Int):=by rw [wrap64 (by omega) (by omega)]
 have hle:(n:Int)+1≤(s.length:Int)+1:=by omega
 have hnlt:¬ ((s.length:Int)+1 < (n:Int)+1):=by omega
 have g1:(0:Int)≤(n:Int)+1:=by omega
 have g2:((n:Int)+1)*16≤140737488355328:=by omega
 have g3:(n:Int)+1≤9223372036854775807:=by omega
 have g4:((n:Int)+1).toNat=n+1:=by omega
 have g5:(n:Int) < (n:Int)+1:=by omega
 have g6:n+1≤(parts c s).length:=by omega
 have hz':List.replicate (n+1) (AVal.str [])=mem (parts c s) 0:=by simpa [rep] using hz
 simp only [b7] at hl
 simp [dt T t143,code143,h174,hw1,hw2,hw3,hw4,hle,hnlt,g1,g2,g3,g4,g5,g6,hz',hl,hml,hlast',hb,reach_step,reach_done,ids_strs,ren_strs]
 done
theorem s90 {s:List UInt8} {c:UInt8} (hn:s.length≤1000000) (hb:b≤os.length) :
  xCall T 90 [.str s,.str [c]] ⟨os,b,w⟩=some (.slice (some (os.length,0)) (parts c s).length (some (parts c s).length),⟨os++[.cells 1 ((parts c s).map AVal.str)],b,w⟩):=by
 have h:=s143 (w:=os.length) (c:=c) hn hb
 simp [dt T t90,code90,h,reach_step,reach_done,ids_strs,ren_strs]
theorem parts_le {c:UInt8}:∀ {s:List UInt8},∀ x ∈ parts c s,x.length≤s.length
 | [],x,h=>by simp [parts] at h; simp [h]
 | y :: r,x,h=>by
  have ih:=fun z hz=>parts_le (c:=c) (s:=r) z hz
  simp only [parts] at h
  split at h
  ·rcases ba.1 h with rfl | h
   ·simp
   ·have:=ih x h; simp; omega
  ·split at h
   ·rename_i p ps hp
    rw [hp] at ih
    rcases ba.1 h with rfl | h
    ·have:=ih p (av ..); simp; exact this
    ·have:=ih x (bq _ h); simp; omega
   ·simp at h; simp [h]
def isClass (s:List UInt8):Bool:=decide (s.length≤64) && (parts 47 s).all wordL
theorem flat_strs:∀ L:List (List UInt8),L.map AVal.str=L.flatMap strCell
 | []=>rfl
 | c :: s=>by
  rw [cr,cg,flat_strs s]
  rfl
theorem s25 {s:List UInt8} (hb:b≤os.length):xCall T 25 [.str s] ⟨os,b,w⟩=some (.bool (isClass s),⟨os,b,w⟩):=by
 by_cases h64:s.length≤64
 ·have h1:=s90 (os:=os) (b:=b) (w:=os.length) (s:=s) (c:=47) (by omega) hb
  have hlen:=parts_length 47 s
  have hcnt:=count_le 47 s
  have hall:=fun x hx=>parts_le (c:=47) (s:=s) x hx
  have h2:=s91 (os:=os++[.cells 1 ((parts 47 s).map AVal.str)]) (b:=b) (w:=os.length) (L:=parts 47 s) (a:=some (os.length,0)) (c:=some (parts 47 s).length) (g:=92) (p:=fun x=>!wordL x)
   (Row.mk0 (fun _=>rfl) (by rw [← flat_strs]; simp)) (by omega) (fun x hx w=>s92 (by have:=hall x hx; omega))
  have h64':(s.length:Int)≤64:=by omega
  simp [dt T t25,code25,isClass,h64,h64',h1,h2,any_not]
 ·have h64':¬ ((s.length:Int)≤64):=by omega
  simp [dt T t25,code25,isClass,h64,h64']
end Go.Abs.AbsDesc

namespace Go.Abs.AbsDesc
end Go.Abs.AbsDesc

namespace Go.Abs.AbsDesc
variable {os:List AObj} {b w:Nat}
end Go.Abs.AbsDesc

namespace Go.Abs.AbsDesc
variable {os:List AObj} {b w:Nat}
def begins (c:UInt8):List UInt8→Bool
 | []=>false
 | x :: _=>decide (x=c)
theorem s140 {s:List UInt8} {c:UInt8}:xCall T 140 [.str s,.str [c]] ⟨os,b,w⟩=some (.bool (begins c s),⟨os,b,w⟩):=by
 cases s with
 | nil=>simp [dt T t140,code140,begins]
 | cons x r =>
  have h1:(1:Int)≤(r.length:Int)+1:=by omega
  simp [dt T t140,code140,begins,h1]
theorem s137 {s:List UInt8} {c:UInt8} (hn:s.length≤9223372036854775807):xCall T 137 [.str s,.str [c]] ⟨os,b,w⟩=some (.tuple [.str (if begins c s then s.tail else s),.bool (begins c s)],⟨os,b,w⟩):=by
 have h:=s140 (os:=os) (b:=b) (w:=os.length) (s:=s) (c:=c)
 cases s with
 | nil=>simp [dt T t137,code137,begins] at h ⊢; simp [h]
 | cons x r =>
  by_cases e:x=c
  ·have h1:(1:Int)≤(r.length:Int)+1:=by omega
   simp [dt T t137,code137,begins,e,h1] at h ⊢
   simp [h,h1]
  ·simp [dt T t137,code137,begins,e] at h ⊢
   simp [h]
theorem s85 {s:List UInt8} {c:UInt8} (hn:s.length≤9223372036854775807):xCall T 85 [.str s,.str [c]] ⟨os,b,w⟩=some (.tuple [.str (if begins c s then s.tail else s),.bool (begins c s)],⟨os,b,w⟩):=by
 have h:=s137 (os:=os) (b:=b) (w:=os.length) (c:=c) hn
 simp [dt T t85,code85,h]
end Go.Abs.AbsDesc

namespace Go.Abs.AbsDesc
variable {os:List AObj} {b w:Nat}
end Go.Abs.AbsDesc

namespace Go.Abs.AbsDesc
variable {os:List AObj} {b w:Nat}
theorem u8_eq (x:UInt8) (n:Nat) (hn:n < 256):((x.toNat:Int)=(n:Int))=(x=UInt8.ofNat n):=by
 apply propext
 constructor
 ·intro h
  apply UInt8.toNat_inj.1
  have e:(UInt8.ofNat n).toNat=n:=by simp; omega
  omega
 ·intro h
  subst h
  have e:(UInt8.ofNat n).toNat=n:=by simp; omega
  omega
end Go.Abs.AbsDesc

namespace Go.Abs.AbsDesc
variable {os:List AObj} {b w:Nat}
def ends (c:UInt8) (s:List UInt8):Bool:=decide (1≤s.length) && decide (s.drop (s.length - 1)=[c])
end Go.Abs.AbsDesc

namespace Go.Abs.AbsDesc
variable {os:List AObj} {b w:Nat}
end Go.Abs.AbsDesc

namespace Go.Abs.AbsDesc
variable {os:List AObj} {b w:Nat}
end Go.Abs.AbsDesc

namespace Go.Abs.AbsDesc
def bare (s:List UInt8):List UInt8:=s.dropWhile (· == 91)
def dims (s:List UInt8):Nat:=s.length - (bare s).length
theorem bare_len (s:List UInt8):(bare s).length≤s.length:=by
 unfold bare
 induction s with
 | nil=>simp
 | cons x r ih =>
  rw [List.dropWhile_cons]
  split
  ·simp; omega
  ·simp
theorem bare_split:∀ s:List UInt8,s=List.replicate (dims s) 91++bare s
 | []=>rfl
 | x :: r=>by
  have ih:=bare_split r
  have hl:=bare_len r
  unfold dims bare at *
  rw [List.dropWhile_cons]
  split
  ·rename_i h
   have:x=91:=by simpa using h
   subst this
   have e:(91 :: r).length - (List.dropWhile (· == 91) r).length=(r.length - (List.dropWhile (· == 91) r).length)+1:=by simp only [bp]; omega
   rw [e,List.replicate_succ,b9,← ih]
  ·simp
def nameL (r:List UInt8):Option Nat:=if 0≤Lib.indexByte r 59 then (if isClass (r.take (Lib.indexByte r 59).toNat) then some (Lib.indexByte r 59).toNat else none) else none
def cutN (s:List UInt8):Nat:=match bare s with
 | []=>0
 | c :: r=>if 8 < dims s then 0
  else if c=73∨(c=74∧dims s=0)∨(c=66∧0 < dims s) then dims s+1
  else if c=76 then (match nameL r with | some k=>dims s+k+2 | none=>0) else 0
theorem ib_take {c:UInt8}:∀ {r:List UInt8} {k:Nat},Lib.indexByte r c=k→k < r.length∧r.take k++c :: r.drop (k+1)=r∧c ∉ r.take k
 | [],k,h=>by simp [Lib.indexByte] at h
 | x :: r,k,h=>by
  unfold Lib.indexByte at h
  split at h
  ·rename_i hx
   have hx:x=c:=by simpa using hx
   have:k=0:=by omega
   subst this; subst hx
   simp
  ·rename_i hx
   have hx:¬ x=c:=by simpa using hx
   have hge:=Lib.indexByte_ge r c
   split at h
   ·omega
   ·cases k with
    | zero=>rename_i e; simp at e; omega
    | succ k =>
     obtain ⟨h1,h2,h3⟩:=ib_take (r:=r) (k:=k) (c:=c) (by omega)
     refine ⟨by simp; omega,by simpa using h2,?_⟩
     simp only [List.take_succ_cons,ba,not_or]
     exact ⟨fun e=>hx e.symm,h3⟩
theorem nameL_some {r:List UInt8} {k:Nat} (h:nameL r=some k):k < r.length∧r=r.take k++59 :: r.drop (k+1)∧isClass (r.take k)=true:=by
 unfold nameL at h
 split at h
 ·rename_i h0
  obtain ⟨j,hj⟩:=eu h0
  rw [hj] at h
  simp only [Int.toNat_natCast] at h
  split at h
  ·rename_i hc
   cases h
   obtain ⟨h1,h2,_⟩:=ib_take hj
   exact ⟨h1,h2.symm,hc⟩
  ·cases h
 ·cases h
theorem cutN_le (s:List UInt8):cutN s≤s.length:=by
 have hb:=bare_split s
 have hl:=congrArg List.length hb
 simp only [bc,List.length_replicate] at hl
 unfold cutN
 cases hbs:bare s with
 | nil=>simp
 | cons c r =>
  rw [hbs] at hl
  simp only [bp] at hl
  simp only
  split
  ·omega
  ·split
   ·omega
   ·split
    ·cases hn:nameL r with
     | none=>simp
     | some k=>have:=(nameL_some hn).1; simp only; omega
    ·omega
inductive Ty:List UInt8→Prop
 | one (n:Nat) (c:UInt8) (h:n≤8) (hc:c=73∨(c=74∧n=0)∨(c=66∧0 < n)):Ty (List.replicate n 91++[c])
 | obj (n:Nat) (a:List UInt8) (h:n≤8) (ha:isClass a=true):Ty (List.replicate n 91++76 :: (a++[59]))
def isTy (s:List UInt8):Bool:=decide (s≠[]) && decide (cutN s=s.length)
end Go.Abs.AbsDesc

namespace Go.Abs.AbsDesc
variable {os:List AObj} {b w:Nat} {β:Type}
section
attribute [-simp] getElem?_pos getElem?_neg
theorem l171 {h:Heap} (k:AExit→St→Option β):∀ s:List UInt8,xK T (.loop code171L0) ⟨[(0,.val (.str s)),(1,.val (.int .u8 91))],h⟩ (k:=⟨k⟩)=k (.exit 0) ⟨[(0,.val (.str (bare s)))],h⟩
 | []=>by
  rw [dk]
  simp [code171L0,bare]
 | x :: r=>by
  have ih:=l171 (h:=h) k r
  have e:((x.toNat:Int)=91)=(x=91):=u8_eq x 91 (by omega)
  rw [dk]
  generalize ACode.loop code171L0=L at ih ⊢
  by_cases c:x=91
  ·simp (disch:=omega) [code171L0,iltT,ileT,nltT,e,c,ih,bare,List.dropWhile_cons,bi]
  ·simp (disch:=omega) [code171L0,iltT,ileT,nltT,e,c,bare,List.dropWhile_cons,bi]
end
theorem s171 {s:List UInt8}:xCall T 171 [.str s,.int .u8 91] ⟨os,b,w⟩=some (.str (bare s),⟨os,b,w⟩):=by
 simp [az t171,code171,l171]
theorem s139 {s:List UInt8}:xCall T 139 [.str s,.str [91]] ⟨os,b,w⟩=some (.str (bare s),⟨os,b,w⟩):=by
 by_cases h:s=[]
 ·subst h
  simp [az t139,code139,bare]
 ·simp [az t139,code139,h,s171]
def cutV (c:UInt8) (s:List UInt8):AVal:=if 0≤Lib.indexByte s c then .tuple [.str (s.take (Lib.indexByte s c).toNat),.str (s.drop ((Lib.indexByte s c).toNat+1)),.bool true] else .tuple [.str s,.str [],.bool false]
theorem s172 {s:List UInt8} {c:UInt8} (hn:s.length≤9223372036854775807):xCall T 172 [.str s,.str [c]] ⟨os,b,w⟩=some (cutV c s,⟨os,b,w⟩):=by
 have h5:=fun h=>s205 (s:=s) (c:=c) (h:=h)
 by_cases h:0≤Lib.indexByte s c
 ·obtain ⟨k,hk⟩:=eu h
  obtain ⟨k1,_⟩:=ib_take hk
  have e3:((k:Int)+1).toNat=k+1:=by omega
  have hv:cutV c s = .tuple [.str (s.take k),.str (s.drop (k+1)),.bool true]:=by
   unfold cutV; rw [hk,if_pos (by omega)]; rfl
  rw [hv]
  simp (disch:=omega) [-getElem?_pos,-getElem?_neg,az t172,code172,h5,hk,iltT,ileT,nltT,nleT,cf,e3]
 ·have hv:cutV c s = .tuple [.str s,.str [],.bool false]:=by
   unfold cutV; rw [if_neg h]
  rw [hv]
  simp (disch:=omega) [az t172,code172,h5,h]
theorem s138 {s:List UInt8} {c:UInt8} (hn:s.length≤9223372036854775807):xCall T 138 [.str s,.str [c]] ⟨os,b,w⟩=some (cutV c s,⟨os,b,w⟩):=by
 have h:=fun w=>s172 (os:=os) (b:=b) (w:=w) (c:=c) hn
 unfold cutV at h ⊢
 by_cases h0:0≤Lib.indexByte s c
 ·simp only [if_pos h0] at h ⊢
  simp [az t138,code138,h]
 ·simp only [if_neg h0] at h ⊢
  simp [az t138,code138,h]
theorem dims_eq {s r:List UInt8} {c:UInt8} (h:bare s=c :: r):s.length=dims s+(r.length+1):=by
 have:=congrArg List.length (bare_split s)
 simpa [h] using this
section
attribute [-simp] getElem?_pos getElem?_neg
theorem s86 {s:List UInt8} (hn:s.length≤9223372036854775807) (hb:b≤os.length):xCall T 86 [.str s] ⟨os,b,w⟩=some (.str (s.take (cutN s)),⟨os,b,w⟩):=by
 have h139:=fun w=>s139 (os:=os) (b:=b) (w:=w) (s:=s)
 have hl:=bare_len s
 have hd:((s.length:Int) - (bare s).length)=(dims s:Nat):=by unfold dims; omega
 have hle:dims s≤s.length:=by unfold dims; omega
 cases hbs:bare s with
 | nil =>
  simp only [hbs] at h139
  simp [az t86,code86,bi,h139,cutN,hbs]
 | cons c r =>
  simp only [hbs] at h139
  clear hd
  have hlen:=dims_eq hbs
  have hcut:cutN s=if 8 < dims s then 0 else if c=73∨(c=74∧dims s=0)∨(c=66∧0 < dims s) then dims s+1 else if c=76 then (match nameL r with | some k=>dims s+k+2 | none=>0) else 0:=by
   unfold cutN; rw [hbs] <;> rfl
  rw [hcut]
  clear hl hcut
  generalize dims s=d at hlen hle ⊢
  have hd:(s.length:Int) - ((r.length:Int)+1)=d:=by omega
  have e73:((c.toNat:Int)=73)=(c=73):=u8_eq c 73 (by omega)
  have e74:((c.toNat:Int)=74)=(c=74):=u8_eq c 74 (by omega)
  have e66:((c.toNat:Int)=66)=(c=66):=u8_eq c 66 (by omega)
  have e76:((c.toNat:Int)=76)=(c=76):=u8_eq c 76 (by omega)
  have ht1:((d:Int)+1).toNat=d+1:=by omega
  by_cases h8:8 < d
  ·simp (disch:=omega) [az t86,code86,bi,h139,hd,cf,iltT,h8]
  ·by_cases c73:c=73
   ·simp (disch:=omega) [az t86,code86,bi,h139,hd,cf,iltT,iltF,ileT,nltT,nleT,h8,e73,c73,ht1]
   ·by_cases c74:c=74
    ·subst c74
     by_cases d0:d=0
     ·simp (disch:=omega) [az t86,code86,bi,h139,hd,cf,iltT,iltF,ileT,nltT,nleT,h8,d0,ht1]
     ·simp (disch:=omega) [az t86,code86,bi,h139,hd,cf,iltT,iltF,ileT,nltT,nleT,h8,d0,ieqF,ht1]
    ·by_cases c66:c=66
     ·subst c66
      by_cases d0:0 < d
      ·simp (disch:=omega) [az t86,code86,bi,h139,hd,cf,iltT,iltF,ileT,nltT,nleT,h8,d0,ht1]
      ·simp (disch:=omega) [az t86,code86,bi,h139,hd,cf,iltT,iltF,ileT,nltT,nleT,h8,d0,ht1]
     ·by_cases c76:c=76
      ·subst c76
       have h138:=fun w=>s138 (os:=os) (b:=b) (w:=w) (s:=r) (c:=59) (by omega)
       have htr:List.take (r.length+1 - 1) r=r:=by simp
       by_cases hi:0≤Lib.indexByte r 59
       ·obtain ⟨k,hk⟩:=eu hi
        obtain ⟨k1,_⟩:=ib_take hk
        have h25:=fun w=>s25 (w:=w) (s:=r.take k) hb
        have hmin:min k r.length=k:=by omega
        simp only [cutV,hk,Int.natCast_nonneg,if_true,Int.toNat_natCast] at h138
        have ht2:((d:Int)+k+2).toNat=d+k+2:=by omega
        have hnm:nameL r=if isClass (r.take k)=true then some k else none:=by
         unfold nameL; rw [hk,if_pos (by omega)]; rfl
        by_cases hc:isClass (r.take k)=true
        ·simp (disch:=omega) [az t86,code86,bi,h139,hd,cf,iltT,iltF,ileT,nltT,nleT,h8,h138,h25,hc,hnm,hmin,ht2]
        ·simp (disch:=omega) [az t86,code86,bi,h139,hd,cf,iltT,iltF,ileT,nltT,nleT,h8,h138,h25,hc,hnm]
       ·have hnm:nameL r=none:=by unfold nameL; rw [if_neg hi]
        simp only [cutV,if_neg hi] at h138
        simp (disch:=omega) [az t86,code86,bi,h139,hd,cf,iltT,iltF,ileT,nltT,nleT,h8,h138,hnm]
      ·simp (disch:=omega) [az t86,code86,bi,h139,hd,cf,iltT,iltF,ileT,nltT,nleT,h8,e73,e74,e66,e76,c73,c74,c66,c76]
end
theorem s27 {s:List UInt8} (hn:s.length≤9223372036854775807) (hb:b≤os.length):xCall T 27 [.str s] ⟨os,b,w⟩=some (.bool (isTy s),⟨os,b,w⟩):=by
 have h:=fun w=>s86 (w:=w) hn hb
 have hc:=cutN_le s
 have e:(s.take (cutN s)=s)=(cutN s=s.length):=by
  apply propext
  constructor
  ·intro e
   have:=congrArg List.length e
   simp at this; omega
  ·intro e; rw [e,List.take_length]
 by_cases h0:s=[]
 ·simp [az t27,code27,isTy,h0]
 ·simp [az t27,code27,isTy,h0,h,e]
end Go.Abs.AbsDesc

namespace Go.Abs.AbsDesc
variable {os:List AObj} {b w:Nat} {β:Type}
end Go.Abs.AbsDesc

namespace Go.Abs.AbsDesc
variable {os:List AObj} {b w:Nat} {β:Type}
def methA:Nat→List UInt8→Option (List (List UInt8) × List UInt8)
 | m,s=>if s=[]∨begins 41 s=true then some ([],s) else if cutN s=0 then none else match m with
  | 0=>none
  | m+1=>(methA m (s.drop (cutN s))).map fun p=>(s.take (cutN s) :: p.1,p.2)
theorem methA_len:∀ {m:Nat} {s:List UInt8} {A:List (List UInt8)} {r:List UInt8},methA m s=some (A,r)→A.length≤m∧r.length≤s.length∧∀ t ∈ A,t.length≤s.length
 | m,s,A,r,h=>by
  unfold methA at h
  split at h
  ·cases h; simp
  ·split at h
   ·cases h
   ·cases m with
    | zero=>cases h
    | succ m =>
     simp only at h
     rw [ae] at h
     obtain ⟨p,h1,h2⟩:=h
     obtain ⟨rfl,rfl⟩:=Prod.mk.inj h2
     obtain ⟨k1,k2,k3⟩:=methA_len (A:=p.1) (r:=p.2) h1
     simp only [iq] at k2 k3
     refine ⟨by simp; omega,by omega,fun t ht=>?_⟩
     rcases ba.1 ht with rfl | ht
     ·simp; omega
     ·have:=k3 t ht; omega
def Meth38 (b w:Nat) (k:AExit→St→Option β) (x:Option β) (O:List AObj) (L:List (List UInt8)) (a2 a3:Nat):Option (List (List UInt8) × List UInt8)→Prop
 | none=>∃ O',O.length≤O'.length∧x=k .ret ⟨[(2,.val (.slice none 0 (some 0))),(3,.val (.str [])),(4,.val (.int .i64 8))],⟨O',b,w⟩⟩
 | some (A,r)=>∃ O',O.length≤O'.length∧x=k (.exit 0) ⟨if a2 < a3 then [(a2,.val (.str r)),(a3,.val (.slice (some (O'.length,0)) (L.length+A.length) none))] else [(a3,.val (.slice (some (O'.length,0)) (L.length+A.length) none)),(a2,.val (.str r))],⟨O'++[.cells 1 ((L++A).map AVal.str)],b,w⟩⟩
section
attribute [-simp] getElem?_pos getElem?_neg
set_option maxHeartbeats 1000000 in
theorem l38 (k:AExit→St→Option β):∀ (m:Nat) (s:List UInt8) (O:List AObj) (L:List (List UInt8)),s.length≤9223372036854775807→L.length+m=16→L≠[]→b≤O.length→w≤O.length →
  Meth38 b w k (xK T (.loop code38L0) ⟨[(5,.val (.str s)),(7,.val (.slice (some (O.length,0)) L.length none))],⟨O++[.cells 1 (L.map AVal.str)],b,w⟩⟩ (k:=⟨k⟩)) O L 5 7 (methA m s):=by
 intro m
 induction m with
 | zero =>
  intro s O L hn hL hne hb hw
  unfold methA
  rw [dk]
  cases s with
  | nil =>
   simp only [true_or,if_true]
   refine ⟨O,aj _,?_⟩
   simp [code38L0]
  | cons x r =>
   have e:((x.toNat:Int)=41)=(x=41):=u8_eq x 41 (by omega)
   by_cases hx:x=41
   ·simp only [begins,hx,decide_true,or_true,if_true]
    refine ⟨O,aj _,?_⟩
    simp (disch:=omega) [code38L0,e,hx,bi,iltT]
   ·have h86:=fun w=>s86 (os:=O++[.cells 1 (L.map AVal.str)]) (b:=b) (w:=w) hn (by simp; omega)
    have hL16:(L.length:Int)=16:=by omega
    have h0:∀ n:Nat,n≠0→List.take n (x :: r)≠[]:=fun n hn=>by cases n <;> simp_all
    by_cases hc:cutN (x :: r)=0
    ·simp only [begins,hx,decide_false,reduceCtorEq,bj,or_self,if_false,hc,if_true]
     refine ⟨O++[.cells 1 (L.map AVal.str)],by simp,?_⟩
     simp (disch:=omega) [code38L0,e,hx,bi,iltT,h86,hc]
    ·simp only [begins,hx,decide_false,reduceCtorEq,bj,or_self,if_false,hc]
     refine ⟨O++[.cells 1 (L.map AVal.str)],by simp,?_⟩
     simp (disch:=omega) [code38L0,e,hx,bi,iltT,h86,h0 _ hc,hL16]
 | succ m ih =>
  intro s O L hn hL hne hb hw
  unfold methA
  rw [dk]
  cases s with
  | nil =>
   simp only [true_or,if_true]
   refine ⟨O,aj _,?_⟩
   simp [code38L0]
  | cons x r =>
   have e:((x.toNat:Int)=41)=(x=41):=u8_eq x 41 (by omega)
   by_cases hx:x=41
   ·simp only [begins,hx,decide_true,or_true,if_true]
    refine ⟨O,aj _,?_⟩
    simp (disch:=omega) [code38L0,e,hx,bi,iltT]
   ·have h86:=fun w=>s86 (os:=O++[.cells 1 (L.map AVal.str)]) (b:=b) (w:=w) hn (by simp; omega)
    have hL16:¬ (L.length:Int)=16:=by omega
    have h0:∀ n:Nat,n≠0→List.take n (x :: r)≠[]:=fun n hn=>by cases n <;> simp_all
    by_cases hc:cutN (x :: r)=0
    ·simp only [begins,hx,decide_false,reduceCtorEq,bj,or_self,if_false,hc,if_true]
     refine ⟨O++[.cells 1 (L.map AVal.str)],by simp,?_⟩
     simp (disch:=omega) [code38L0,e,hx,bi,iltT,h86,hc]
    ·simp only [begins,hx,decide_false,reduceCtorEq,bj,or_self,if_false,hc]
     have hle:=cutN_le (x :: r)
     have h0':=h0 _ hc
     have hlt:(List.take (cutN (x :: r)) (x :: r)).length=cutN (x :: r):=by simp at hle ⊢; omega
     generalize ht:List.take (cutN (x :: r)) (x :: r)=t at *
     have hdr:List.take ((x :: r).length - cutN (x :: r)) (List.drop (cutN (x :: r)) (x :: r))=List.drop (cutN (x :: r)) (x :: r):=take_drop_len ..
     have hle2:(List.drop (cutN (x :: r)) (x :: r)).length≤9223372036854775807:=by simp only [iq]; omega
     have ih:=ih (List.drop (cutN (x :: r)) (x :: r)) (O++[.dead,.cells 1 [.str t]]) (L++[t]) hle2 (by simp; omega) (by simp) (by simp; omega) (by simp; omega)
     simp only [bc,bp,a7,bh,b9,b0,List.map_append,cr,gg] at ih
     generalize cutN (x :: r)=n at *
     generalize ACode.loop code38L0=LL at ih ⊢
     have hle':n≤r.length+1:=by simpa using hle
     have hdr':List.take (r.length+1 - n) (List.drop n (x :: r))=List.drop n (x :: r):=by simpa using hdr
     have key:Meth38 b w k (xK T code38L0 ⟨[(5,.val (.str (x :: r))),(7,.val (.slice (some (O.length,0)) L.length none))],⟨O++[.cells 1 (L.map AVal.str)],b,w⟩⟩ (k:=⟨fun e st=>nxK e st (f:=⟨fun st=>xK T LL st (k:=⟨k⟩)⟩) (k:=⟨k⟩)⟩)) (O++[.dead,.cells 1 [.str t]]) (L++[t]) 5 7 (methA m (List.drop n (x :: r))):=by
      simp (maxSteps:=2000000) (disch:=omega) [code38L0,e,hx,bi,iltT,h86,h0',hL16,hne,au,hlt,Nat.min_eq_left,ileT,nleT,nltT,hdr',ht]
      simpa using ih
     cases hm:methA m (List.drop n (x :: r)) with
     | none =>
      rw [hm] at key
      obtain ⟨O',h1,h2⟩:=key
      exact ⟨O',by simp at h1; omega,h2⟩
     | some p =>
      obtain ⟨A,q⟩:=p
      rw [hm] at key
      obtain ⟨O',h1,h2⟩:=key
      refine ⟨O',by simp at h1; omega,h2.trans ?_⟩
      simp [Nat.add_comm 1,ik]
end
end Go.Abs.AbsDesc

namespace Go.Abs.AbsDesc
variable {os:List AObj} {b w:Nat} {β:Type}
def Meth0 (b w:Nat) (k:AExit→St→Option β) (x:Option β) (O:List AObj) (a2 a3:Nat):Option (List (List UInt8) × List UInt8)→Prop
 | none=>∃ O',O.length≤O'.length∧x=k .ret ⟨[(2,.val (.slice none 0 (some 0))),(3,.val (.str [])),(4,.val (.int .i64 8))],⟨O',b,w⟩⟩
 | some ([],r)=>x=k (.exit 0) ⟨if a2 < a3 then [(a2,.val (.str r)),(a3,.val (.slice none 0 (some 0)))] else [(a3,.val (.slice none 0 (some 0))),(a2,.val (.str r))],⟨O,b,w⟩⟩
 | some (a :: A,r)=>∃ O',O.length≤O'.length∧x=k (.exit 0) ⟨if a2 < a3 then [(a2,.val (.str r)),(a3,.val (.slice (some (O'.length,0)) (A.length+1) none))] else [(a3,.val (.slice (some (O'.length,0)) (A.length+1) none)),(a2,.val (.str r))],⟨O'++[.cells 1 ((a :: A).map AVal.str)],b,w⟩⟩
section
attribute [-simp] getElem?_pos getElem?_neg
set_option maxHeartbeats 1000000 in
theorem l38z (k:AExit→St→Option β) (s:List UInt8) (O:List AObj) (hn:s.length≤9223372036854775807) (hb:b≤O.length) (hw:w≤O.length) :
  Meth0 b w k (xK T (.loop code38L0) ⟨[(5,.val (.str s)),(7,.val (.slice none 0 (some 0)))],⟨O,b,w⟩⟩ (k:=⟨k⟩)) O 5 7 (methA 16 s):=by
 unfold methA
 rw [dk]
 cases s with
 | nil =>
  simp only [true_or,if_true]
  simp [Meth0,code38L0]
 | cons x r =>
  have e:((x.toNat:Int)=41)=(x=41):=u8_eq x 41 (by omega)
  by_cases hx:x=41
  ·simp only [begins,hx,decide_true,or_true,if_true]
   simp (disch:=omega) [Meth0,code38L0,e,hx,bi,iltT]
  ·have h86:=fun w=>s86 (os:=O) (b:=b) (w:=w) hn hb
   have h0:∀ n:Nat,n≠0→List.take n (x :: r)≠[]:=fun n hn=>by cases n <;> simp_all
   by_cases hc:cutN (x :: r)=0
   ·simp only [begins,hx,decide_false,reduceCtorEq,bj,or_self,if_false,hc,if_true]
    refine ⟨O,aj _,?_⟩
    simp (disch:=omega) [code38L0,e,hx,bi,iltT,h86,hc]
   ·simp only [begins,hx,decide_false,reduceCtorEq,bj,or_self,if_false,hc]
    have hle:=cutN_le (x :: r)
    have h0':=h0 _ hc
    have hlt:(List.take (cutN (x :: r)) (x :: r)).length=cutN (x :: r):=by simp at hle ⊢; omega
    generalize ht:List.take (cutN (x :: r)) (x :: r)=t at *
    have hle2:(List.drop (cutN (x :: r)) (x :: r)).length≤9223372036854775807:=by simp only [iq]; omega
    have hdr:List.take ((x :: r).length - cutN (x :: r)) (List.drop (cutN (x :: r)) (x :: r))=List.drop (cutN (x :: r)) (x :: r):=take_drop_len ..
    have ih:=l38 (b:=b) (w:=w) k 15 (List.drop (cutN (x :: r)) (x :: r)) (O++[.cells 1 [.str t]]) [t] hle2 rfl (by simp) (by simp; omega) (by simp; omega)
    generalize cutN (x :: r)=n at *
    generalize ACode.loop code38L0=LL at ih ⊢
    have hle':n≤r.length+1:=by simpa using hle
    have hdr':List.take (r.length+1 - n) (List.drop n (x :: r))=List.drop n (x :: r):=by simpa using hdr
    have key:Meth38 b w k (xK T code38L0 ⟨[(5,.val (.str (x :: r))),(7,.val (.slice none 0 (some 0)))],⟨O,b,w⟩⟩ (k:=⟨fun e st=>nxK e st (f:=⟨fun st=>xK T LL st (k:=⟨k⟩)⟩) (k:=⟨k⟩)⟩)) (O++[.cells 1 [.str t]]) [t] 5 7 (methA 15 (List.drop n (x :: r))):=by
     simp (maxSteps:=2000000) (disch:=omega) [code38L0,e,hx,bi,iltT,h86,h0',au,hlt,Nat.min_eq_left,ileT,nleT,nltT,hdr',ht]
     simpa using ih
    cases hm:methA 15 (List.drop n (x :: r)) with
    | none =>
     rw [hm] at key
     obtain ⟨O',h1,h2⟩:=key
     exact ⟨O',by simp at h1; omega,h2⟩
    | some p =>
     obtain ⟨A,q⟩:=p
     rw [hm] at key
     obtain ⟨O',h1,h2⟩:=key
     refine ⟨O',by simp at h1; omega,h2.trans ?_⟩
     simp [Nat.add_comm 1,ik]
end
end Go.Abs.AbsDesc

namespace Go.Abs.AbsDesc
variable {os:List AObj} {b w:Nat} {β:Type}
theorem Meth0.elim {k:AExit→St→Option β} {x y:Option β} {O:List AObj} {a2 a3:Nat} {m:Option (List (List UInt8) × List UInt8)} (h:Meth0 b w k x O a2 a3 m)
  (h1:∀ O',m=none→O.length≤O'.length→k .ret ⟨[(2,.val (.slice none 0 (some 0))),(3,.val (.str [])),(4,.val (.int .i64 8))],⟨O',b,w⟩⟩=y)
  (h2:∀ r,m=some ([],r)→k (.exit 0) ⟨if a2 < a3 then [(a2,.val (.str r)),(a3,.val (.slice none 0 (some 0)))] else [(a3,.val (.slice none 0 (some 0))),(a2,.val (.str r))],⟨O,b,w⟩⟩=y)
  (h3:∀ O' a A r,m=some (a :: A,r)→O.length≤O'.length→k (.exit 0) ⟨if a2 < a3 then [(a2,.val (.str r)),(a3,.val (.slice (some (O'.length,0)) (A.length+1) none))] else [(a3,.val (.slice (some (O'.length,0)) (A.length+1) none)),(a2,.val (.str r))],⟨O'++[.cells 1 ((a :: A).map AVal.str)],b,w⟩⟩=y):x=y:=by
 cases m with
 | none =>
  obtain ⟨O',e1,e2⟩:=h
  exact e2.trans (h1 O' rfl e1)
 | some p =>
  obtain ⟨A,r⟩:=p
  cases A with
  | nil=>exact (show x=_ from h).trans (h2 r rfl)
  | cons a A =>
   obtain ⟨O',e1,e2⟩:=h
   exact e2.trans (h3 O' a A r rfl e1)
def methL (s:List UInt8):Option (List (List UInt8) × List UInt8) :=
 if begins 40 s then (match methA 16 s.tail with
  | some (A,r)=>if begins 41 r && (decide (r.tail=[86]) || isTy r.tail) then some (A,r.tail) else none
  | none=>none)
 else none
def methV (n:Nat):Option (List (List UInt8) × List UInt8)→AVal
 | none=>.tuple [.slice none 0 (some 0),.str [],.int .i64 8]
 | some ([],r)=>.tuple [.slice none 0 (some 0),.str r,.int .i64 0]
 | some (a :: A,r)=>.tuple [.slice (some (n,0)) (A.length+1) none,.str r,.int .i64 0]
def methO (os:List AObj):Option (List (List UInt8) × List UInt8)→List AObj
 | some (a :: A,_)=>os++[.cells 1 ((a :: A).map AVal.str)]
 | _=>os
section
attribute [-simp] getElem?_pos getElem?_neg
attribute [local simp] gz gs
theorem s38 {s:List UInt8} (hn:s.length≤9223372036854775807) (hb:b≤os.length):xCall T 38 [.str s] ⟨os,b,w⟩=some (methV os.length (methL s),⟨methO os (methL s),b,w⟩):=by
 have h85:=fun w=>s85 (os:=os) (b:=b) (w:=w) (s:=s) (c:=40) (by omega)
 by_cases h:begins 40 s=true
 ·cases s with
  | nil=>simp [begins] at h
  | cons x q =>
   simp only [h,if_true,List.tail_cons] at h85
   simp only [bp] at hn
   have hm:methL (x :: q)=(match methA 16 q with
     | some (A,r)=>if begins 41 r && (decide (r.tail=[86]) || isTy r.tail) then some (A,r.tail) else none
     | none=>none):=by
    unfold methL; rw [if_pos h]; rfl
   rw [hm]
   simp (disch:=omega) [az t38,code38,h85]
   refine Meth0.elim (l38z _ q os (by omega) hb (aj _)) ?_ ?_ ?_
   ·intro O' h1 h2
    simp (disch:=omega) [code38,h1,methV,methO]
   ·intro r h1
    have hr:=(methA_len h1).2.1
    have h2:=fun w=>s85 (os:=os) (b:=b) (w:=w) (s:=r) (c:=41) (by omega)
    have h3:=fun w=>s27 (b:=b) (w:=w) (s:=r.tail) (by simp; omega) hb
    by_cases c1:begins 41 r=true <;> by_cases c2:r.tail=[86] <;> by_cases c3:isTy r.tail=true
    all_goals simp (disch:=omega) [code38,h1,h2,h3,c1,c2,c3,methV,methO]
   ·intro O' a A r h1 h2
    have hr:=(methA_len h1).2.1
    have hb':b≤(O'++[AObj.cells 1 ((a :: A).map AVal.str)]).length:=by simp; omega
    have h4:=fun w=>s85 (os:=O'++[.cells 1 ((a :: A).map AVal.str)]) (b:=b) (w:=w) (s:=r) (c:=41) (by omega)
    have h3:=fun w=>s27 (os:=O'++[.cells 1 ((a :: A).map AVal.str)]) (b:=b) (w:=w) (s:=r.tail) (by simp; omega) hb'
    simp only [cr] at h4 h3
    by_cases c1:begins 41 r=true <;> by_cases c2:r.tail=[86] <;> by_cases c3:isTy r.tail=true
    all_goals simp (disch:=omega) [code38,h1,h4,h3,c1,c2,c3,methV,methO,nltF,reach_step,reach_done]
 ·have hm:methL s=none:=by unfold methL; rw [if_neg h]
  rw [hm]
  simp only [Bool.not_eq_true] at h
  simp only [h,bj,if_false] at h85
  simp (disch:=omega) [az t38,code38,h85,methV,methO]
end
end Go.Abs.AbsDesc

namespace Go.Abs.AbsDesc
variable {os:List AObj} {b w:Nat} {β:Type}
end Go.Abs.AbsDesc

namespace Go.Abs.AbsHier
open Go.Abs.AbsDesc
variable {os O:List AObj} {b w:Nat}
theorem s27 {s:Str} (hn:s.length≤9223372036854775807) (hb:b≤os.length):xCall T 27 [.str s] ⟨os,b,w⟩=some (.bool (isTy s),⟨os,b,w⟩):=ir sub (AbsDesc.s27 hn hb)
theorem s25 {s:Str} (hb:b≤os.length):xCall T 25 [.str s] ⟨os,b,w⟩=some (.bool (isClass s),⟨os,b,w⟩):=ir sub (AbsDesc.s25 hb)
theorem s38 {s:Str} (hn:s.length≤9223372036854775807) (hb:b≤os.length):xCall T 38 [.str s] ⟨os,b,w⟩=some (methV os.length (methL s),⟨methO os (methL s),b,w⟩):=ir sub (AbsDesc.s38 hn hb)
theorem s139 {s:Str}:xCall T 139 [.str s,.str [91]] ⟨os,b,w⟩=some (.str (bare s),⟨os,b,w⟩):=ir sub AbsDesc.s139
theorem s173 {s:Str} {c:UInt8} {h:Heap}:xCall T 173 [.str s,.str [c]] h=some (.int .i64 (Lib.indexByte s c),h):=ir sub AbsDesc.s173
abbrev Key:=Str × Str × Str
structure Mem where
 cls:Str
 st:Bool
 deriving DecidableEq
def keyF (k:Key):AVal:=.agg [.str k.1,.str k.2.1,.str k.2.2]
def memF (m:Mem):AVal:=.agg [.str m.cls,.bool m.st]
structure World (O:List AObj) (N:Nat) (S:List (Str × Str)) (F M:List (Key × Mem)) (V:List (Key × Bool)):Prop where
 w0:O[N]? = some (.cells 4 [.map (some (N+1)),.map (some (N+2)),.map (some (N+3)),.map (some (N+4))])
 m1:O[N+1]? = some (mObj .str .str S)
 m2:O[N+2]? = some (mObj keyF memF F)
 m3:O[N+3]? = some (mObj keyF memF M)
 m4:O[N+4]? = some (mObj keyF .bool V)
variable {N:Nat} {S:List (Str × Str)} {F M:List (Key × Mem)} {V:List (Key × Bool)}
end Go.Abs.AbsHier

namespace Go.Abs.AbsHier
open Go.Abs.AbsDesc
variable {os O:List AObj} {b w:Nat} {N:Nat} {S:List (Str × Str)} {F M:List (Key × Mem)} {V:List (Key × Bool)}
def lineS (S:List (Str × Str)):Nat→Str→List Str
 | 0,_=>[]
 | k+1,c=>match getE S c with
  | some d=>c :: lineS S k d
  | none=>[]
structure LineB {σ:Type} (B:σ→Str→AObj→List AObj) (N n i g lo:Nat) (sl:List (Nat × AVal)) (S:List (Str × Str)) (step:σ→Str→σ × Option AExit) (b:Nat):Prop where
 bn:b≤n
 lon:lo≤n
 c0:∀ x c o,(B x c o)[n]? = some (.cells 1 [.ptr (some (N,0))])
 c1:∀ x c o,(B x c o)[n+1]? = some (.cells 1 [.str c])
 set:∀ x c d o,(B x c o).set (n+1) (.cells 1 [.str d])=B x d o
 loop:∀ x c o,(B x c o)[i]? = some o
 w0:∀ x c o,∃ r,(B x c o)[N]? = some (.cells 4 (.map (some (N+1)) :: r))
 m1:∀ x c o,(B x c o)[N+1]? = some (mObj .str .str S)
 body:∀ x c w,lo≤w→∃ w',lo≤w'∧w'≤i∧xCall T g [.ptr (some (i,0)),.str c] ⟨B x c (.loop g .ready none sl),b,w⟩ =
  some (.bool (step x c).2.isNone,⟨B (step x c).1 c (match (step x c).2 with | none=>.loop g .ready none sl | some e=>.loop g .done (some e) sl),b,w'⟩)
section
variable {σ:Type} {B:σ→Str→AObj→List AObj} {n i g lo:Nat} {sl:List (Nat × AVal)} {step:σ→Str→σ × Option AExit}
end
end Go.Abs.AbsHier
