/- Parts. -/
import Derived.Test.YtfgpipfjalmooaaGreatMeetP
import Derived.Test.YtfgpipfjalmooaaGreatKpP
open Go renaming World→ä,Value→ö
set_option linter.all false
noncomputable section
namespace Go.Proofs.YtfgpipfjalmooaaGreat
namespace Abs
open Go Tryz
section
def Ih:TabL:={
 ty:=[(3,tInt),(4,.bool),(9,.str),(23,(.slice tInt)),(24,(.slice tCommit)),(36,(.slice aa)),(38,tCommit),(42,aM),(44,aa),(94,(.slice ah)),(96,ai),(144,(.slice eG)),(146,ah),(168,eG)],
 cells:=[(3,1),(4,1),(9,1),(23,1),(24,1),(36,1),(38,5),(42,4),(44,6),(94,1),(96,1),(144,1),(146,3),(168,5)],
 si:=[((38,0),0),((38,1),1),((38,2),2),((38,3),3),((38,4),4),((42,0),0),((42,1),1),((42,2),2),((42,3),3),((44,0),0),((44,1),1),((44,2),2),((96,0),0),((146,0),0),((146,1),1),((146,2),2),((168,0),0),((168,1),1)],
 one:=[],
 elem:=[(23,3),(24,38),(36,44),(94,146),(144,168)] }
def yz:TabOk prog Ih.tab:=TabL.ok Φ
variable{g:Type}
def nY (m:Bool)(K:(List Int)→Option g)(l:(List tCommit.den)):Option g:=cl m ai (BF l) λr1=>cl m (.slice tInt) (aB r1 0) λf=>K f
def kK (l:(List tCommit.den)):Option (List Int):=nY false some l
def CE:Ent:=evE (.cons (.slice tCommit) .unit) aw (zero (.slice tInt)) λx=>kK x.1
def PX:Par:=⟨Ih.tab,Et [(57,ada)] [] [] [] [(59,jG)],λ_=>look [],λ_=>look []⟩
def PW:aj prog 108 (CE):=evX func108 (S:=PX) yz (uX ⟨agS,apa⟩ trivial trivial trivial ⟨nZ,apa⟩) (tys:=[(.slice tInt)]) (λf x=>nY true (sm aw) x.1) (λx=>by show _=Option.map aw _;simp only[nY,kK,ss])
def vW (m:Bool)(K:Int→Option g)(l:(List tCommit.den))(x:Int):Option g:=cl m tInt (mod2_ev x 23) λr1=>cond (r1=22) (K 5242887) (cl m (.slice tInt) (kK l) (λj=>ck (!(2:Int)=0) (cl m tInt (aZ j (w64 (Int.tdiv x 2))) (λf=>K f))))
def rT (l:(List tCommit.den))(x:Int):Option Int:=vW false some l x
def Ju:Ent:=evE (.cons (.slice tCommit) (.cons tInt .unit)) av (zero tInt) λx=>rT x.1 x.2.1
def Yf:Par:=⟨Ih.tab,az [(18,tH),(108,CE),(60,zf)],λ_=>look [],λ_=>look []⟩
def Ye:aj prog 58 (Ju):=evX func58 (S:=Yf) yz (ag ⟨mod2_x,PW,Dd,apa⟩) (tys:=[tInt]) (λf x=>vW true (sm av) x.1 x.2.1) (λx=>by show _=Option.map av _;simp only[vW,rT,ss])
def zq (m:Bool)(K:Int→Option g)(l:(List tCommit.den))(x:Int):Option g:=cl m ai (BF l) λr1=>cl m tInt (mod2_ev x 11) λJ=>cond (J=10) (ck (!(11:Int)=0) (cl m tInt (rT l (w64 (Int.tdiv x 11))) (λC=>K C))) (cl m (.slice tInt) (aB r1 2) (λf=>ck (lm (List.length ([]:List Int)+List.length f)) (cl m (.slice tInt) (aB r1 3) (λj=>ck (lm (List.length ([]++f)+List.length j)) (cl m (.slice tInt) (aB r1 1) (λp=>ck (lm (List.length ([]++f++j)+List.length p)) (cl m tInt (aZ ([]++f++j++p) x) (λr=>K r))))))))
def pP (l:(List tCommit.den))(x:Int):Option Int:=zq false some l x
def OV:Ent:=evE (.cons (.slice tCommit) (.cons tInt .unit)) av (zero tInt) λx=>pP x.1 x.2.1
def aaP:Par:=⟨Ih.tab,Et [(57,ada),(18,tH),(58,Ju),(60,zf)] [] [] [] [(59,jG)],λ_=>look [],λ_=>look []⟩
def aaO:aj prog 28 (OV):=evX func28 (S:=aaP) yz (uX ⟨agS,mod2_x,Ye,Dd,apa⟩ trivial trivial trivial ⟨nZ,apa⟩) (tys:=[tInt]) (λf x=>zq true (sm av) x.1 x.2.1) (λx=>by show _=Option.map av _;simp only[zq,pP,ss])
def oW (m:Bool)(K:(List Int)→Option g)(f:b7 g):b7 g:=λh x out i=>nq m [2,1] (i<il x) (cond (cond (i<il x) (i<4) false) (ck (bd i x.length) (cl m tInt (pP h (ix tInt x i)) (λr1=>ck (lm (List.length out+List.length ([r1]:List Int))) (fz m (.slice tInt) (out++[r1]) (λl=>fz m tInt (w64 (i+1)) λj=>f h x l j))))) (K out))
def ym (m:Bool)(K:(List Int)→Option g)(f:b7 g)(h:(List tCommit.den))(x:(List Int)):Option g:=f h x [] 0
def qH:Nat→b7 (List Int):=lp (λ_ _ _ _=>none) λf=>oW false some f
def oX (h:(List tCommit.den))(x:(List Int)):Option (List Int):=ym false some (qH FU) h x
def MX:Ent:=evE (.cons (.slice tCommit) (.cons (.slice tInt) .unit)) aw (zero (.slice tInt)) λx=>oX x.1 x.2.1
def D6:MS:=⟨0,[],[(0,.bb (.slice tCommit)),(1,.bb (.slice tInt)),(5,.own tInt 3),(6,.bb tInt)]⟩
def MY:Par:=⟨Ih.tab,az [(28,OV)],λ_=>look [],λ_=>look [(3,D6)]⟩
def Zb:KT:=bq Ih.tab [.tmp 4] [(.slice tInt)]
def MZ (f g:Nat)(p:List Nat):Sg→KT→Option AV:=xc (bo fi0 hs0 f 0) MY g f (sub (f8.body.getD .skip) p)
def qG (f n:Nat):b7 AV:=λh x out i=>aN 0 D6 (MZ f 0 [1,1,0,1,0,0]) (ak 0 (aW 0 none (MZ f 0 [1,1,1]) Zb)) n ⟨mkE 27 [(0,.val (.slice tCommit) h),(1,.val (.slice tInt) x),(5,.own 0 0 tInt out),(6,.val tInt i)],mkH 1 [(0,.row tInt 3 0)]⟩
def QZ (f g:Nat):qG f (g+1)=oW true (sm aw) (qG f g):=Φ
def Q0:∀n,qG FU n=mp4 aw (qH n):=cq Φ λf _ h=>(QZ FU f).trans (by rw[h];funext _ _ _ _;simp only[oW,ss])
def Za:aj prog 8 (MX):=evX func8 (S:=MY) yz (ag ⟨aaO,apa⟩) (tys:=[(.slice tInt)]) (λf x=>ym true (sm aw) (qG f f) x.1 x.2.1) (λx=>by show _=Option.map aw _;rw[Q0 FU];simp only[ym,oX,ss])
end
abbrev aD:Ty:=.cons (.slice tInt) (.cons (.slice am) .unit)
open Go.Proofs Go.RowKit Go.Maps Go.Shelf
def kz {w:ä}{St:Sb}:∀l:List Int,Rep w St (chain (toD (.int .i64)) l) (intsI l)
 |[]=>rfl
 |i::l=>⟨[.int .i64 i],_,rfl,⟨rfl,rfl⟩,kz l⟩
def dD (c:Cel):WK:=⟨c.1,c.2.1,c.2.2.1.1,c.2.2.1.2.1,⟨c.2.2.1.2.2.1.toArray⟩,c.2.2.1.2.2.2.1⟩
def cU (c:tCommit.den):CF:=⟨c.1,c.2.1,c.2.2.1,⟨c.2.2.2.1.toArray⟩,c.2.2.2.2.1.map dD⟩
variable{w:ä}{St:Sb}{v:ö}{l:List tCommit.den}{ws:List Int}{vs:List ö}
def aiY {c:Cel}{f:List ö}(h:Rep w St (toD aa c) f):f=gp (dD c):=by obtain⟨a1,r1,rfl,⟨rfl,_⟩,a2,r2,rfl,⟨rfl,_⟩,a3,r3,rfl,⟨b1,s1,rfl,⟨rfl,_⟩,b2,s2,rfl,⟨rfl,_⟩,b3,s3,rfl,⟨rfl,_⟩,b4,s4,rfl,⟨rfl,_⟩,rfl⟩,rfl⟩:=h;rfl
def aag (c:Cel):Rep w St (toD aa c) (gp (dD c)) :=
 ⟨[_],_,rfl,⟨rfl,rfl⟩,[_],_,rfl,⟨rfl,rfl⟩,_,[],rfl,⟨[_],_,rfl,⟨rfl,rfl⟩,[_],_,rfl,⟨rfl,rfl⟩,[_],_,rfl,⟨rfl,rfl⟩,[_],[],rfl,⟨rfl,rfl⟩,rfl⟩,rfl⟩
def Mk {w:ä}{St:Sb}:∀{l:List Cel} {f:List ö},Rep w St (chain (toD aa) l) f→f=flW (l.map dD)
 |[],f,h=>h
 |c::l,f,h=>by obtain⟨c1,c2,rfl,j,g⟩:=h;rw[aiY j,Mk g];rfl
def rW {w:ä}{St:Sb}:∀l:List Cel,Rep w St (chain (toD aa) l) (flW (l.map dD))
 |[]=>rfl
 |c::l=>⟨gp (dD c),_,rfl,aag c,rW l⟩
def rX {w:ä}{St:Sb}:∀{l:List Int} {f:List ö},Rep w St (chain (toD (.int .i64)) l) f→f=intsI l
 |[],f,h=>h
 |c::l,f,h=>by obtain⟨c1,c2,rfl,⟨rfl,_⟩,h2⟩:=h;rw[rX h2];rfl
def gx {t:Ty}(hz:0<t.size)(P:∀b o,St b o→b<w.heap.size){l:List t.den}{R:List ö}(h:Rep w St (toD (.slice t) l) [v])(hx:∀r,Rep w St (chain (toD t) l) r→r=R):fP w w.heap.size v l.length R:=by
 obtain⟨A,c,e,hc,U⟩:=dV h;injection e with e;refine⟨A,c,e,λhA=>?_,λhn=>?_⟩
 ·obtain h|⟨ad,r,rfl,_⟩:=U
  ·exact h
  ·cases hA
 ·obtain h|⟨ad,r,rfl,J,T,p⟩:=U
  ·omega
  ·obtain⟨b,g,sp⟩:=ad;have J:sp=none:=J;subst J;obtain rfl:=hx r T;have f:∀j u,r[j]? = some u→w.cell? ⟨b,g+j,none⟩=some u∧St b (g+j):=λj u C=>by
    have:=p j u C;rwa[cV]at this
   refine⟨b,g,rfl, ?_,λj u C=>(f j u C).1⟩;cases l with
   |nil=>simp at hn
   |cons x l=>
    obtain⟨c1,c2,rfl,h1,_⟩:=T;cases c1 with
    |nil =>have:=h1.size;simp at this;omega
    |cons u c1=>exact P _ _ (f 0 u rfl).2
open Classical in
def F8 (l:List tCommit.den)(ws:List Int):Bool:=decide (GoodW ((l.map cU).map (·.wl)) ws∧l.length≤19∧(l.Pairwise λa b=>a.1<b.1)∧∀c∈l,c.2.1.length≤1048576∧c.2.2.1.length≤1048576)
def QK (l:List tCommit.den):List WK:=((l.map cU).map (·.wl)).flatten
open Classical in
def UU (l:List tCommit.den)(ws:List Int):List Int:=if h:∃f,ot f (RchK (QK l) ws)then h.choose else[]
def tS (l:List tCommit.den)(ws:List Int)(x:WK):Bool:=Pe (UU l ws) (QK l) x
def jV (keep:WK→Bool)(c:tCommit.den):am.den:=((c.1,c.2.1,c.2.2.1,c.2.2.2.1,c.2.2.2.2.1.filter λx=>keep (dD x),()),((c.2.2.2.2.1.countP λx=>!keep (dD x):Nat):Int),())
def iC (l:List tCommit.den)(ws:List Int):aD.den:=(kn ws,l.map (jV (tS l ws)),())
def adb:∀{a b:List Int},a.Pairwise (λx y=>x<y)→b.Pairwise (λx y=>x<y)→(∀x,x∈a↔x∈b)→a=b
 |[],[],_,_,_=>rfl
 |[],y::b,_,_,h=>absurd ((h y).2 (m_ ..)) Ψ
 |x::a,[],_,_,h=>absurd ((h x).1 (m_ ..)) Ψ
 |x::a,y::b,ha,hb,h=>by
  obtain⟨g,j⟩:=B_.1 ha;obtain⟨b1,b2⟩:=B_.1 hb;have e:x=y:=by
   rcases c_.1 ((h x).1 (m_ ..))with e|e
   ·exact e
   ·rcases c_.1 ((h y).2 (m_ ..))with e'|e'
    ·exact e'.symm
    ·have:=b1 x e;have:=g y e';omega
  subst e;rw[adb j b2 λz=>⟨λf=>?_,λf=>?_⟩]
  ·rcases c_.1 ((h z).1 (e_ _ f))with e|e
   ·have:=g z f;omega
   ·exact e
  ·rcases c_.1 ((h z).2 (e_ _ f))with e|e
   ·have:=b1 z f;omega
   ·exact e
def asc_uniq {P:Int→Prop}:∀{a b:List Int},ot a P→ot b P→a=b:=λ{a b} g f=>
 adb g.1 f.1 λx=>(g.2 x).trans (f.2 x).symm
def aba {f:List Int}(h:ot f (RchK (QK l) ws)):UU l ws=f:=by unfold UU;rw[aki ⟨f,h⟩];exact asc_uniq (Exists.choose_spec (⟨f,h⟩:∃f,ot f (RchK (QK l) ws))) h
def I2:F8 l ws=true↔GoodW ((l.map cU).map (·.wl)) ws∧l.length≤19∧(l.Pairwise λa b=>a.1<b.1)∧∀c∈l,c.2.1.length≤1048576∧c.2.2.1.length≤1048576:=by unfold F8;simp
def comsF_of (j:∀b o,St b o→b<w.heap.size){U:ö}(h:RepV w St (.slice tCommit) l U) :
  ∃A cap,U = .slice A l.length cap∧l.length≤cap∧uC w w.heap.size A (l.map cU):=by
 unfold RepV at h;rw[ω (by simp[Ty.an])]at h;obtain⟨A,cap,e0,hc,hh⟩:=dV h;cases e0;refine⟨A,cap,rfl,hc,λr=>?_⟩;rw[G']at r;obtain h|⟨ad,J,rfl,T,hr,g⟩:=hh
 ·have h:l.length=0:=h;omega
 ·obtain⟨b,p,sp⟩:=ad;have T:sp=none:=T;subst T;have hl:J.length=l.length*5:=bv hr;refine⟨b,p,rfl,(j _ _ (g 0 _ (ζ Ω)).2),λk hk=>?_⟩;rw[G']at hk;have C:=qh hr k hk;have R:tCommit.size=5:=rfl;rw[R]at C;obtain⟨c1,r1,e1,⟨rfl,_⟩,c2,r2,rfl,h2,c3,r3,rfl,h3,c4,r4,rfl,⟨rfl,_⟩,c5,r5,rfl,h5,rfl⟩:=C;obtain⟨v2,rfl⟩:∃v,c2=[v]:=by obtain⟨A,n,c,e,_⟩:=h2;exact⟨_,e⟩
  obtain⟨v3,rfl⟩:∃v,c3=[v]:=by obtain⟨A,n,c,e,_⟩:=h3;exact⟨_,e⟩
  obtain⟨v5,rfl⟩:∃v,c5=[v]:=by obtain⟨A,n,c,e,_⟩:=h5;exact⟨_,e⟩
  have cell:∀f u,(((J.drop (k*5)).take 5))[f]? = some u→w.cell? ⟨b,p+k*5+f,none⟩=some u:=λf u P=>by
   have hf:f<5:=by have:=(f_.1 P).1;rw[g_]at this;omega
   rw[aj6 hf,o_]at P;have:=(g (k*5+f) u P).1;rwa[cV,←Nat.add_assoc]at this
  rw[e1]at cell;rw[alr];refine⟨v2,v3,v5,cell 0 _ rfl,cell 1 _ rfl,cell 2 _ rfl,cell 3 _ rfl,cell 4 _ rfl,gx (t :=.int .i64) Ϛ j h2 λJ h=>rX h,gx (t :=.int .i64) Ϛ j h3 λJ h=>rX h, ?_⟩;have:=gx (t:=aa) Ϛ j h5 λJ h=>Mk h;have e:(cU l[k]).wl.length=l[k].2.2.2.2.1.length:=by simp[cU]
  rw[e];exact this
def aaf {W:ä}{T:Nat}{c:tCommit.den}{keep:WK→Bool}(h:cJ W w.heap.size T (ig keep (cU c)) vs):Rep W (sw w W St) (toD am (jV keep c)) vs:=by
 obtain⟨pv,g,f,rfl,p,l,j,_⟩:=h;have e:(ig keep (cU c)).c.wl=(c.2.2.2.2.1.filter λx=>keep (dD x)).map dD:=by simp[ig,cU];rw[List.filter_map];rfl
 have r:(ig keep (cU c)).left=c.2.2.2.2.1.countP λx=>!keep (dD x):=by simp[ig,cU];rfl
 rw[e,G']at j;rw[r];exact⟨[_,pv,g,_,f],[_],rfl,⟨[_],_,rfl,⟨rfl,rfl⟩,[pv],_,rfl,de (τ :=.int .i64) p (kz _),[g],_,rfl,de (τ :=.int .i64) l (kz _),[_],_,rfl,⟨rfl,rfl⟩,[f],[],rfl,de (τ:=aa) j (rW _),rfl⟩,[_],[],rfl,⟨rfl,rfl⟩,rfl⟩
def AO {w W:ä}{St:Sb}{T:Nat}{keep:WK→Bool}:∀{l:List tCommit.den} {vs:List (List ö)},bK W w.heap.size T (l.map λc=>ig keep (cU c)) vs →
  Rep W (sw w W St) (chain (toD am) (l.map (jV keep))) vs.flatten
 |[],[],_=>rfl
 |_::_,_::_,h=>⟨_,_,rfl,aaf h.1,AO h.2⟩
 |[],_::_,h=>h.elim
 |_::_,[],h=>h.elim
def Nb {t g:Ty}{x:t.den}{y:g.den}(h:RepVs w St [⟨t,x⟩,⟨g,y⟩] vs):∃v f,vs=[v,f]∧RepV w St t x v∧RepV w St g y f:=by
 match vs,h with
 |[v,f],⟨l,j,_⟩=>exact⟨v,f,rfl,l,j⟩
def ints_of (f:∀b o,St b o→b<w.heap.size){l:List Int}(h:RepV w St (.slice (.int .i64)) l v):∃A c,v = .slice A l.length c∧fP w w.heap.size (.slice A l.length c) l.length (intsI l):=by unfold RepV at h;rw[ω (by simp[Ty.an])]at h;have:=gx (t :=.int .i64) Ϛ f h λj h=>rX h;obtain⟨A,c,rfl,g⟩:=this;exact⟨A,c,rfl,A,c,rfl,g⟩
def Wu {l:List Prt}(h:Mq l=true)(w:ä)(St:Sb)(f:∀b o,St b o→b<w.heap.size)(v:ö)(j:RepV w St (.slice am) l v):Calls prog 39 #[v,.func (.func 40) #[] #[]] w λe g=>e = .returned (.tuple #[])∧Below w.heap.size w g:=by
 obtain⟨R,J,_,r⟩:=ag5 [.val (.slice am) l,.fn 40 .pnil] (.tup (aY [])) (by
  show some (Mq l,_)=some (true,_);rw[h])
 refine(r w St f [v,.func (.func 40) #[] #[]] (J (aG w St) _ ⟨⟨v,rfl,j⟩,⟨[],rfl,rfl,rfl⟩,apa⟩)).mono ?_;rintro e g ⟨u,St',rfl,C,_,_,_,_,p⟩;obtain⟨U,T,P,_⟩:=p;obtain rfl:U=[]:=P;cases T;exact⟨rfl,C⟩
def ahO (l:List tCommit.den)(ws:List Int)(h:F8 l ws=true):MeetsD prog 13 [⟨.slice tCommit,l⟩,⟨.slice (.int .i64),ws⟩] (.val aD (iC l ws)):=by
 obtain⟨hg,hl,j,R⟩:=I2.1 h;refine⟨⟨_,func13,rfl,Φ⟩,λw St p vs J=>?_⟩;obtain⟨v1,v2,rfl,h1,h2⟩:=Nb J;obtain⟨A,cap,rfl,_,hcs⟩:=comsF_of p h1;obtain⟨A2,r,rfl,C⟩:=ints_of p h2;have:=Xw (l.map cU) ws hg (λc hc=>by
  obtain⟨d,hd,rfl⟩:=a_.1 hc;exact R d hd) w A A2 cap r hcs C λkeep W B T v vs ho g=>?_
 ·rw[G']at this;refine this.mono ?_;rintro e w' ⟨wv,pv,ks,vs,rfl,hks,hb,ho1,ho2,g⟩;have e:UU l ws=ks:=aba hks;have hk:Pe ks ((l.map cU).map (·.wl)).flatten=tS l ws:=by unfold tS;rw[e];rfl
  rw[hk,V_]at g;have P:=AO (St:=St) (l:=l) (keep:=tS l ws) g;refine Ou hb (ε _) ?_;unfold RepV;rw[Θ (show aD.an=true from rfl)];refine⟨[wv,pv],rfl,[wv],[pv],rfl,de (τ :=.int .i64) ho1 (kz _),[pv],[],rfl, ?_,rfl⟩;have:(iC l ws).2.1.length=l.length:=by simp[iC]
  exact de (τ:=am) (by rw[this];exact ho2) P
 ·have f:=ct ho (Y' B);have U:bK W ({ W with heap :=#[] }:ä).heap.size T (l.map λc=>ig keep (cU c)) vs:=by
   rw[V_]at g;exact g.all λx v hx=>hx.lo (Y' B)
  have hr:=AO (w:={ W with heap :=#[] }) (St:=⟨λ_ _=>False,λ_ _ _ _=>False⟩) U;refine Wu (l:=l.map (jV keep)) (Hb.2 ⟨by rw[G'];exact hl,alf.2 (j.imp λh=>h)⟩) W (sw { W with heap :=#[] } W ⟨λ_ _=>False,λ_ _ _ _=>False⟩) (λb o h=>?_) v ?_
  ·obtain h|h:=h
   ·exact h.elim
   ·exact h.2
  ·unfold RepV;rw[ω (by simp[Ty.an])];refine de (τ:=am) (e:=54) ?_ hr;rw[G']at f⊢;rw[G']at f;exact f
