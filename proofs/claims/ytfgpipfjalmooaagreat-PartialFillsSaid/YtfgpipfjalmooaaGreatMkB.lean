/- Parts. -/
import Derived.Test.YtfgpipfjalmooaaGreatMeetP
import Derived.Test.YtfgpipfjalmooaaGreatKpP
set_option linter.all false
noncomputable section
namespace Go.Proofs.YtfgpipfjalmooaaGreat
namespace Abs
open Go Tryz
section
def Jw:TabL:={
 ty:=[(3,tInt),(4,.bool),(9,.str),(23,(.slice tInt)),(24,(.slice tCommit)),(36,(.slice aa)),(38,tCommit),(42,aJ),(44,aa),(94,(.slice ah)),(96,ai),(144,(.slice eO)),(146,ah),(168,eO)],
 cells:=[(3,1),(4,1),(9,1),(23,1),(24,1),(36,1),(38,5),(42,4),(44,6),(94,1),(96,1),(144,1),(146,3),(168,5)],
 offs:=[((38,0),0),((38,1),1),((38,2),2),((38,3),3),((38,4),4),((42,0),0),((42,1),1),((42,2),2),((42,3),3),((44,0),0),((44,1),1),((44,2),2),((96,0),0),((146,0),0),((146,1),1),((146,2),2),((168,0),0),((168,1),1)],
 one:=[],
 elem:=[(23,3),(24,38),(36,44),(94,146),(144,168)] }
def zB:TabOk prog Jw.tab:=TabL.ok Φ
variable{g:Type}
def pl (m:Bool)(K:(List Int)→Option g)(l:(List tCommit.den)):Option g:=cl m ai (C4 l) λr1=>cl m (.slice tInt) (aD r1 0) λf=>K f
def lB (l:(List tCommit.den)):Option (List Int):=pl false some l
def DY:Ent:=evE (.cons (.slice tCommit) .unit) aq (zero (.slice tInt)) λx=>lB x.1
def QZ:Par:=⟨Jw.tab,Fv [(57,ady)] [] [] [] [(59,kG)],λ_=>look [],λ_=>look []⟩
def QY:ar prog 108 (DY):=evX func108 (S:=QZ) zB (v8 ⟨agL,aoG⟩ trivial trivial trivial ⟨pm,aoG⟩) (tys:=[(.slice tInt)]) (λf x=>pl true (sm aq) x.1) (λx=>by show _=Option.map aq _;simp only[pl,lB,ss])
def w9 (m:Bool)(K:Int→Option g)(l:(List tCommit.den))(x:Int):Option g:=cl m tInt (mod2_ev x 23) λr1=>cond (r1=22) (K 5242887) (cl m (.slice tInt) (lB l) (λj=>ck (!(2:Int)=0) (cl m tInt (ba j (w64 (Int.tdiv x 2))) (λf=>K f))))
def tl (l:(List tCommit.den))(x:Int):Option Int:=w9 false some l x
def KI:Ent:=evE (.cons (.slice tCommit) (.cons tInt .unit)) ax (zero tInt) λx=>tl x.1 x.2.1
def Zb:Par:=⟨Jw.tab,az [(18,sE),(108,DY),(60,An)],λ_=>look [],λ_=>look []⟩
def Za:ar prog 58 (KI):=evX func58 (S:=Zb) zB (ag ⟨mod2_x,QY,Eu,aoG⟩) (tys:=[tInt]) (λf x=>w9 true (sm ax) x.1 x.2.1) (λx=>by show _=Option.map ax _;simp only[w9,tl,ss])
def Ay (m:Bool)(K:Int→Option g)(l:(List tCommit.den))(x:Int):Option g:=cl m ai (C4 l) λr1=>cl m tInt (mod2_ev x 11) λJ=>cond (J=10) (ck (!(11:Int)=0) (cl m tInt (tl l (w64 (Int.tdiv x 11))) (λC=>K C))) (cl m (.slice tInt) (aD r1 2) (λf=>ck (lm (List.length ([]:List Int)+List.length f)) (cl m (.slice tInt) (aD r1 3) (λj=>ck (lm (List.length ([]++f)+List.length j)) (cl m (.slice tInt) (aD r1 1) (λp=>ck (lm (List.length ([]++f++j)+List.length p)) (cl m tInt (ba ([]++f++j++p) x) (λr=>K r))))))))
def qS (l:(List tCommit.den))(x:Int):Option Int:=Ay false some l x
def PO:Ent:=evE (.cons (.slice tCommit) (.cons tInt .unit)) ax (zero tInt) λx=>qS x.1 x.2.1
def abo:Par:=⟨Jw.tab,Fv [(57,ady),(18,sE),(58,KI),(60,An)] [] [] [] [(59,kG)],λ_=>look [],λ_=>look []⟩
def abn:ar prog 28 (PO):=evX func28 (S:=abo) zB (v8 ⟨agL,mod2_x,Za,Eu,aoG⟩ trivial trivial trivial ⟨pm,aoG⟩) (tys:=[tInt]) (λf x=>Ay true (sm ax) x.1 x.2.1) (λx=>by show _=Option.map ax _;simp only[Ay,qS,ss])
def p8 (m:Bool)(K:(List Int)→Option g)(f:aB g):aB g:=λh x out i=>nq m [2,1] (i<il x) (cond (cond (i<il x) (i<4) false) (ck (bd i x.length) (cl m tInt (qS h (ix tInt x i)) (λr1=>ck (lm (List.length out+List.length ([r1]:List Int))) (fz m (.slice tInt) (out++[r1]) (λl=>fz m tInt (w64 (i+1)) λj=>f h x l j))))) (K out))
def zn (m:Bool)(K:(List Int)→Option g)(f:aB g)(h:(List tCommit.den))(x:(List Int)):Option g:=f h x [] 0
def rN:Nat→aB (List Int):=lp (λ_ _ _ _=>none) λf=>p8 false some f
def p9 (h:(List tCommit.den))(x:(List Int)):Option (List Int):=zn false some (rN FU) h x
def N1:Ent:=evE (.cons (.slice tCommit) (.cons (.slice tInt) .unit)) aq (zero (.slice tInt)) λx=>p9 x.1 x.2.1
def mh:MS:=⟨0,[],[(0,.dat (.slice tCommit)),(1,.dat (.slice tInt)),(5,.own tInt 3),(6,.dat tInt)]⟩
def N2:Par:=⟨Jw.tab,az [(28,PO)],λ_=>look [],λ_=>look [(3,mh)]⟩
def ZY:KT:=bg Jw.tab [.tmp 4] [(.slice tInt)]
def N3 (f g:Nat)(p:List Nat):Sg→KT→Option AV:=xc (bn fi0 hs0 f 0) N2 g f (sub (f8.body.getD .skip) p)
def rM (f n:Nat):aB AV:=λh x out i=>aE 0 mh (N3 f 0 [1,1,0,1,0,0]) (aj 0 (aL 0 none (N3 f 0 [1,1,1]) ZY)) n ⟨mkE 27 [(0,.val (.slice tCommit) h),(1,.val (.slice tInt) x),(5,.own 0 0 tInt out),(6,.val tInt i)],mkH 1 [(0,.row tInt 3 0)]⟩
def R7 (f g:Nat):rM f (g+1)=p8 true (sm aq) (rM f g):=Φ
def R8:∀n,rM FU n=mp4 aq (rN n):=bo Φ λf _ h=>(R7 FU f).trans (by rw[h];funext _ _ _ _;simp only[p8,ss])
def ZX:ar prog 8 (N1):=evX func8 (S:=N2) zB (ag ⟨abn,aoG⟩) (tys:=[(.slice tInt)]) (λf x=>zn true (sm aq) (rM f f) x.1 x.2.1) (λx=>by show _=Option.map aq _;rw[R8 FU];simp only[zn,p9,ss])
end
abbrev am:Ty:=.cons (.slice tInt) (.cons (.slice ao) .unit)
open Go.Proofs Go.RowKit Go.Maps Go.Shelf
def wu {w:World}{St:Sb}:∀l:List Int,Rep w St (chain (toD (.int .i64)) l) (intsI l)
 |[]=>rfl
 |i::l=>⟨[.int .i64 i],_,rfl,⟨rfl,rfl⟩,wu l⟩
def bN (c:Cel):WK:=⟨c.1,c.2.1,c.2.2.1.1,c.2.2.1.2.1,⟨c.2.2.1.2.2.1.toArray⟩,c.2.2.1.2.2.2.1⟩
def gi (c:tCommit.den):CF:=⟨c.1,c.2.1,c.2.2.1,⟨c.2.2.2.1.toArray⟩,c.2.2.2.2.1.map bN⟩
variable{w:World}{St:Sb}{l:List tCommit.den}
def aiE {c:Cel}{f:List Value}(h:Rep w St (toD aa c) f):f=tw (bN c):=by obtain⟨a1,r1,rfl,⟨rfl,_⟩,a2,r2,rfl,⟨rfl,_⟩,a3,r3,rfl,⟨b1,s1,rfl,⟨rfl,_⟩,b2,s2,rfl,⟨rfl,_⟩,b3,s3,rfl,⟨rfl,_⟩,b4,s4,rfl,⟨rfl,_⟩,rfl⟩,rfl⟩:=h;rfl
def aaP (c:Cel):Rep w St (toD aa c) (tw (bN c)) :=
 ⟨[_],_,rfl,⟨rfl,rfl⟩,[_],_,rfl,⟨rfl,rfl⟩,_,[],rfl,⟨[_],_,rfl,⟨rfl,rfl⟩,[_],_,rfl,⟨rfl,rfl⟩,[_],_,rfl,⟨rfl,rfl⟩,[_],[],rfl,⟨rfl,rfl⟩,rfl⟩,rfl⟩
def Ni {w:World}{St:Sb}:∀{l:List Cel} {f:List Value},Rep w St (chain (toD aa) l) f→f=flW (l.map bN)
 |[],f,h=>h
 |c::l,f,h=>by obtain⟨c1,c2,rfl,j,g⟩:=h;rw[aiE j,Ni g];rfl
def yX {w:World}{St:Sb}:∀l:List Cel,Rep w St (chain (toD aa) l) (flW (l.map bN))
 |[]=>rfl
 |c::l=>⟨tw (bN c),_,rfl,aaP c,yX l⟩
def xh {w:World}{St:Sb}:∀{l:List Int} {f:List Value},Rep w St (chain (toD (.int .i64)) l) f→f=intsI l
 |[],f,h=>h
 |c::l,f,h=>by obtain⟨c1,c2,rfl,⟨rfl,_⟩,h2⟩:=h;rw[xh h2];rfl
def je {t:Ty}(hz:0<t.size)(P:∀b o,St b o→b<w.heap.size){l:List t.den}{v:Value}{R:List Value}(h:Rep w St (toD (.slice t) l) [v])(hx:∀r,Rep w St (chain (toD t) l) r→r=R):iX w w.heap.size v l.length R:=by
 obtain⟨A,c,e,hc,U⟩:=eh h;injection e with e;refine⟨A,c,e,λhA=>?_,λhn=>?_⟩
 ·obtain h|⟨ad,r,rfl,_⟩:=U
  ·exact h
  ·cases hA
 ·obtain h|⟨ad,r,rfl,J,T,p⟩:=U
  ·omega
  ·obtain⟨b,g,sp⟩:=ad;have J:sp=none:=J;subst J;obtain rfl:=hx r T;have f:∀j u,r[j]? = some u→w.cell? ⟨b,g+j,none⟩=some u∧St b (g+j):=λj u C=>by
    have:=p j u C;rwa[cV]at this
   refine⟨b,g,rfl, ?_,λj u C=>(f j u C).1⟩;cases l with
   |nil=>simp at hn
   |cons x l=>
    obtain⟨c1,c2,rfl,h1,_⟩:=T;cases c1 with
    |nil =>have:=h1.size;simp at this;omega
    |cons u c1=>exact P _ _ (f 0 u rfl).2
def gj (l:List tCommit.den):List WK:=((l.map gi).map (·.wl)).flatten
open Classical in
def ge (l:List tCommit.den)(ws:List Int):List Int:=if h:∃f,yl f (RchK (gj l) ws)then h.choose else[]
def dw (l:List tCommit.den)(ws:List Int)(x:WK):Bool:=aiR (ge l ws) (gj l) x
def xP (keep:WK→Bool)(c:tCommit.den):ao.den:=((c.1,c.2.1,c.2.2.1,c.2.2.2.1,c.2.2.2.2.1.filter λx=>keep (bN x),()),((c.2.2.2.2.1.countP λx=>!keep (bN x):Nat):Int),())
def xV (l:List tCommit.den)(ws:List Int):am.den:=(aeh ws,l.map (xP (dw l ws)),())
def UR:∀{a b:List Int},a.Pairwise (λx y=>x<y)→b.Pairwise (λx y=>x<y)→(∀x,x∈a↔x∈b)→a=b
 |[],[],_,_,_=>rfl
 |[],y::b,_,_,h=>absurd ((h y).2 (X' ..)) Ψ
 |x::a,[],_,_,h=>absurd ((h x).1 (X' ..)) Ψ
 |x::a,y::b,ha,hb,h=>by
  obtain⟨g,j⟩:=q_.1 ha;obtain⟨b1,b2⟩:=q_.1 hb;have e:x=y:=by
   rcases P'.1 ((h x).1 (X' ..))with e|e
   ·exact e
   ·rcases P'.1 ((h y).2 (X' ..))with e'|e'
    ·exact e'.symm
    ·have:=b1 x e;have:=g y e';omega
  subst e;rw[UR j b2 λz=>⟨λf=>?_,λf=>?_⟩]
  ·rcases P'.1 ((h z).1 (F' _ f))with e|e
   ·have:=g z f;omega
   ·exact e
  ·rcases P'.1 ((h z).2 (F' _ f))with e|e
   ·have:=b1 z f;omega
   ·exact e
def adz {P:Int→Prop}:∀{a b:List Int},yl a P→yl b P→a=b:=λ{a b} g f=>
 UR g.1 f.1 λx=>(g.2 x).trans (f.2 x).symm
def Qg {ws f:List Int}(h:yl f (RchK (gj l) ws)):ge l ws=f:=by unfold ge;rw[ake ⟨f,h⟩];exact adz (Exists.choose_spec (⟨f,h⟩:∃f,yl f (RchK (gj l) ws))) h
def acV (j:∀b o,St b o→b<w.heap.size){U:Value}(h:RepV w St (.slice tCommit) l U) :
  ∃A cap,U = .slice A l.length cap∧l.length≤cap∧agR w w.heap.size A (l.map gi):=by
 unfold RepV at h;rw[B' (by simp[Ty.isStruct])]at h;obtain⟨A,cap,e0,hc,hh⟩:=eh h;cases e0;refine⟨A,cap,rfl,hc,λr=>?_⟩;rw[b_]at r;obtain h|⟨ad,J,rfl,T,hr,g⟩:=hh
 ·have h:l.length=0:=h;omega
 ·obtain⟨b,p,sp⟩:=ad;have T:sp=none:=T;subst T;have hl:J.length=l.length*5:=bw hr;refine⟨b,p,rfl,(j _ _ (g 0 _ (ε Ω)).2),λk hk=>?_⟩;rw[b_]at hk;have C:=rr hr k hk;have R:tCommit.size=5:=rfl;rw[R]at C;obtain⟨c1,r1,e1,⟨rfl,_⟩,c2,r2,rfl,h2,c3,r3,rfl,h3,c4,r4,rfl,⟨rfl,_⟩,c5,r5,rfl,h5,rfl⟩:=C;obtain⟨v2,rfl⟩:∃v,c2=[v]:=by obtain⟨A,n,c,e,_⟩:=h2;exact⟨_,e⟩
  obtain⟨v3,rfl⟩:∃v,c3=[v]:=by obtain⟨A,n,c,e,_⟩:=h3;exact⟨_,e⟩
  obtain⟨v5,rfl⟩:∃v,c5=[v]:=by obtain⟨A,n,c,e,_⟩:=h5;exact⟨_,e⟩
  have cell:∀f u,(((J.drop (k*5)).take 5))[f]? = some u→w.cell? ⟨b,p+k*5+f,none⟩=some u:=λf u P=>by
   have hf:f<5:=by have:=(S'.1 P).1;rw[g_]at this;omega
   rw[abs hf,h_]at P;have:=(g (k*5+f) u P).1;rwa[cV,←Nat.add_assoc]at this
  rw[e1]at cell;rw[List.getElem_map];refine⟨v2,v3,v5,cell 0 _ rfl,cell 1 _ rfl,cell 2 _ rfl,cell 3 _ rfl,cell 4 _ rfl,je (t :=.int .i64) Ϛ j h2 λJ h=>xh h,je (t :=.int .i64) Ϛ j h3 λJ h=>xh h, ?_⟩;have:=je (t:=aa) Ϛ j h5 λJ h=>Ni h;have e:(gi l[k]).wl.length=l[k].2.2.2.2.1.length:=by simp[gi]
  rw[e];exact this
def aab {t j:Ty}{x:t.den}{y:j.den}{g:List Value}(h:RepVs w St [⟨t,x⟩,⟨j,y⟩] g):∃v f,g=[v,f]∧RepV w St t x v∧RepV w St j y f:=by
 match g,h with
 |[v,f],⟨p,l,_⟩=>exact⟨v,f,rfl,p,l⟩
