/- Every function's contract. -/
import Derived.Test.YtfgpipfjalmooaaGreatGenG
open Option renaming some→ä,none→ö
open Bool renaming true→ü,false→ß
set_option linter.all false
noncomputable section
namespace Go.Proofs.YtfgpipfjalmooaaGreat
namespace Abs
abbrev eG:Ty:=(.cons tInt (.cons aM .unit))
abbrev ah:Ty:=.cons tInt (.cons tInt (.cons (.slice eG) .unit))
abbrev ai:Ty:=(.cons (.slice ah) .unit)
abbrev Val:=aM.den
abbrev Alt:=eG.den
abbrev Slt:=ah.den
abbrev Sta:=ai.den
abbrev Cel:=aa.den
abbrev Mdl:=aP.den
def afd (x y:Int):Int:=if x<y then -1 else if y<x then 1 else 0
def zv:Val:=(0,ß,[],0,())
def ahd (i f i2 g:Int):Bool:=i<i2||i=i2&&f<g
def ahP (l:List Alt):Bool:=decide (l.length≤1048576)
def stG (s:Sta):Bool:=s.1.length≤1048576&&s.1.all λx=>!x.2.2.1.isEmpty&&ahP x.2.2.1
def ue (x:Slt):Val:=match x.2.2.1 with|a::_=>a.2.1|[]=>zv
def eU (s:Sta):Mdl:=((s.1.filter λx=>!eqD aM (ue x) zv).map λx=>(x.1,x.2.1,ue x,()),())
def jM (a b:Slt):Prop:=ahd a.1 a.2.1 b.1 b.2.1=ü
instance slotDec (a b:Slt):Decidable (jM a b):=inferInstanceAs (Decidable (_=ü))
def agd (l:List Slt):Bool:=decide (l.Pairwise jM)
def cj (s:Sta)(_ _:Int):Bool:=s.1.length≤1048576&&agd s.1
def before (s:Sta)(id field:Int):List Slt:=s.1.takeWhile λx=>ahd x.1 x.2.1 id field
def mN (s:Sta)(id field:Int):List Slt:=s.1.dropWhile λx=>ahd x.1 x.2.1 id field
def af (s:Sta)(id field:Int):Int:=((before s id field).length:Int)
def iw (s:Sta)(id field:Int):List Alt:=match mN s id field with
 |x::_=>if x.1=id∧x.2.1=field then x.2.2.1 else[]
 |[]=>[]
def Yn (id field:Int):List Slt→List Slt
 |x::r=>if x.1=id∧x.2.1=field then r else x::r
 |[]=>[]
def oD (s:Sta)(id field:Int)(l:List Alt):Sta:=(before s id field++(if l.isEmpty then[]else[(id,field,l,())])++Yn id field (mN s id field),())
def ad0 (s:Sta)(id field:Int)(_:List Alt):Bool:=cj s id field
open Go Tryz
def El:TabL:={
 ty:=[(3,tInt),(4,.bool),(9,.str),(36,(.slice aa)),(42,aM),(44,aa),(87,aP),(94,(.slice ah)),(96,ai),(144,(.slice eG)),(146,ah),(168,eG)],
 cells:=[(3,1),(4,1),(9,1),(36,1),(42,4),(44,6),(87,1),(94,1),(96,1),(144,1),(146,3),(168,5)],
 si:=[((42,0),0),((42,1),1),((42,2),2),((42,3),3),((44,0),0),((44,1),1),((44,2),2),((87,0),0),((96,0),0),((146,0),0),((146,1),1),((146,2),2),((168,0),0),((168,1),1)],
 one:=[],
 elem:=[(36,44),(94,146),(144,168)] }
def qQ:TabOk prog El.tab:=TabL.ok Φ
def oG (x:Int):Bool:=(!decide (x=x))
def Dt:List (Nat×Ent):=[]
def ae5:Par:=⟨El.tab,az Dt,λ_=>look [],λ_=>look []⟩
def ae4:Code:=(f70.body).getD .skip
def UY:Fi:=⟨ae5,6,[.tmp 2],ae4⟩
def I5 (f:Nat)(x:Int):Option AV:=mT fi0 hs0 0 UY [.bool] f [.val tInt x]
def abe (f:Nat)(x:Int):I5 f x=ä (.val .bool (!x=x)):=Φ
def abd:bD prog Dt→FiOk prog 70 (UY):=λh=>⟨⟨f70,func70,rfl,Φ,Φ,Φ⟩,qQ,ag h⟩
def Ds:Ent:=sp1 tInt (λ_=>ü) λf=>.val .bool (oG f)
def XQ (l:bD prog Dt)(h:∀(f:Int),∃g,I5 g f=ä (.val .bool (oG f))):aj prog 70 Ds:=qS λf _=>(let ⟨_,j⟩:=h f;bi follows (λ_ _ h=>by cases h) d7 (abd l) (ds:=[⟨_,f⟩]) j)
def XR (f:bD prog Dt):aj prog 70 Ds:=XQ f (λx=>⟨0,by rw[abe];first|rfl|(simp only[jK];rfl)⟩)
def Qr (x:Int)(y:Int):Int:=cond (oG x) (cond (oG y) (0:Int) (-1:Int)) (cond (oG y) (1:Int) (cond (x<y) (-1:Int) (cond (x>y) (1:Int) (0:Int))))
def Mg:List (Nat×Ent):=[(70,Ds)]
def aip:Par:=⟨El.tab,az Mg,λ_=>look [],λ_=>look []⟩
def aio:Code:=(f41.body).getD .skip
def acz:Fi:=⟨aip,20,[.tmp 4],aio⟩
def Qq (f:Nat)(x:Int)(y:Int):Option AV:=mT fi0 hs0 0 acz [tInt] f [.val tInt x,.val tInt y]
def afO (f:Nat)(x:Int)(y:Int):Qq f x y=cond (oG x) (cond (oG y) (ä (.val tInt (0:Int))) (ä (.val tInt (-1:Int)))) (cond (oG y) (ä (.val tInt (1:Int))) (cond (x<y) (ä (.val tInt (-1:Int))) (cond (x>y) (ä (.val tInt (1:Int))) (ä (.val tInt (0:Int)))))):=Φ
def afN:bD prog Mg→FiOk prog 41 (acz):=λh=>⟨⟨f41,func41,rfl,Φ,Φ,Φ⟩,qQ,ag h⟩
def Mf:Ent:=sp2 tInt tInt (λ_ _=>ü) λg f=>.val tInt (Qr g f)
def acx (p:bD prog Mg)(h:∀(g:Int) (f:Int),∃j,Qq j g f=ä (.val tInt (Qr g f))):aj prog 41 Mf:=Kw λg f _=>(let ⟨_,l⟩:=h g f;bi follows (λ_ _ h=>by cases h) d7 (afN p) (ds:=[⟨_,g⟩,⟨_,f⟩]) l)
def acy (f:bD prog Mg):aj prog 41 Mf:=acx f (λx y=>⟨0,by rw[afO];first|rfl|(simp only[jK];rfl)⟩)
def uz (id:Int)(field:Int)(g:Int)(f:Int):Bool:=cond (id<g) ü (cond (id=g) (decide (field<f)) ß)
def DI:List (Nat×Ent):=[]
def agk:Par:=⟨El.tab,az DI,λ_=>look [],λ_=>look []⟩
def agj:Code:=(f145.body).getD .skip
def VH:Fi:=⟨agk,22,[.tmp 8],agj⟩
def BJ (g:Nat)(id:Int)(field:Int)(j:Int)(f:Int):Option AV:=mT fi0 hs0 0 VH [.bool] g [.val tInt id,.val tInt field,.val tInt j,.val tInt f]
def YR (j:Nat)(id:Int)(field:Int)(f:Int)(g:Int):BJ j id field f g=cond (aL (!id<f) (!id<f)&&(aL (!id<f) (!id<f)&&ü)&&ü) (cond (aL (!id<f) (!id<f)&&ü&&ü) (cond (aL (!id<f&&id=f) (!id<f&&id=f)&&(aL (!id<f&&id=f) (!id<f&&id=f)&&ü)&&ü) (cond (aL (!id<f) (!id<f)&&aL (!id<f) (aL (!id<f&&id=f) (!id<f&&id=f)&&ü)) (cond (aL (!id<f) (!id<f)) (ä (.val .bool (cond (id<f) ü (cond (id=f) (decide (field<g)) ß)))) ö) ö) ö) ö) none:=Φ
def adx (j:Nat)(id:Int)(field:Int)(g:Int)(f:Int):BJ j id field g f=ä (.val .bool (cond (id<g) ü (cond (id=g) (decide (field<f)) ß))):=by simpa only[aI,cd,v?,h?,U',I_,B?,t?,m?,u?,Int.reduceLE,Int.reduceEq,Int.reduceLT,Z']using YR j id field g f
def adw:bD prog DI→FiOk prog 145 (VH):=λh=>⟨⟨f145,func145,rfl,Φ,Φ,Φ⟩,qQ,ag h⟩
def wq:Ent:=sp4 tInt tInt tInt tInt (λ_ _ _ _=>ü) λl j g f=>.val .bool (uz l j g f)
def YS (C:bD prog DI)(h:∀(l:Int) (j:Int) (g:Int) (f:Int),∃p,BJ p l j g f=ä (.val .bool (uz l j g f))):aj prog 145 wq:=ZP λl j g f _=>(let ⟨_,r⟩:=h l j g f;bi follows (λ_ _ h=>by cases h) d7 (adw C) (ds:=[⟨_,l⟩,⟨_,j⟩,⟨_,g⟩,⟨_,f⟩]) r)
def YT (j:bD prog DI):aj prog 145 wq:=YS j (λid field g f=>⟨0,by rw[adx];first|rfl|(simp only[jK];rfl)⟩)
def lY:MS:=⟨3,[(0,[.bb (.slice ah)]),(1,[.own aa 44]),(2,[.own aa 44])],[(1,.keep),(2,.keep),(3,.keep),(4,.bb tInt)]⟩
def FQ:List (Nat×Ent):=[]
def lZ:Par:=⟨El.tab,az FQ,λ_=>look [(4,lY)],λ_=>look [(3,lY)]⟩
def zu:Code:=(f94.body).getD .skip
def OZ:Fi:=⟨lZ,41,[.cell 2 87],zu⟩
def IS:Code:=sub zu [1,1,0,1,0,0]
def AY:Code:=sub zu [1,1,1]
def Xu:Code:=sub zu [1,1,0,1,0,0,1,1]
def FT:KT:=bq El.tab [.cell 2 87] [aP]
def vG (f:Nat)(n:Nat)(s:ai.den)(i:Int)(g:(List aa.den)):Option AV:=aN 0 lY (λj k=>exec (bo fi0 hs0 f 0) lZ 0 f IS j k) (ak 0 (aW 0 ö (λj k=>exec (bo fi0 hs0 f 0) lZ 0 f AY j k) FT)) n ⟨mkE 41 [(1,.box 0 0),(2,.box 1 0),(3,.box 2 0),(4,.val tInt i)],mkH 5 [(0,.box [.val (.slice ah) s.1]),(1,.box [.own 3 0 aa []]),(2,.box [.own 4 0 aa g]),(3,.row aa 44 0),(4,.row aa 44 0)]⟩
def AX (f l:Nat)(i:Int)(s:ai.den)(j:(List aa.den)):Option AV:=exec (bo fi0 hs0 f 0) lZ 0 f Xu ⟨mkE 41 [(1,.box 0 0),(2,.box 1 0),(3,.box 2 0),(4,.val tInt i)],mkH 5 [(0,.box [.val (.slice ah) s.1]),(1,.box [.own 3 0 aa []]),(2,.box [.own 4 0 aa j]),(3,.row aa 44 0),(4,.row aa 44 0)]⟩ (I4 0 lY (aN 0 lY (λg k=>exec (bo fi0 hs0 f 0) lZ 0 f IS g k) (ak 0 (aW 0 ö (λg k=>exec (bo fi0 hs0 f 0) lZ 0 f AY g k) FT)) l) (ak 0 (aW 0 ö (λg k=>exec (bo fi0 hs0 f 0) lZ 0 f AY g k) FT)))
def xK (f:Nat)(s:ai.den):Option AV:=mT fi0 hs0 0 OZ [aP] f [.val ai s]
def zr (g j:Nat)(s:ai.den)(i:Int)(f:(List aa.den)):vG g (j+1) s i f=cond (i<(s.1.length:Int)) (cond (0≤i&&i<(s.1.length:Int)) (cond (0≤(0:Int)&&0<((ix ah s.1 i).2.2.1.length:Int)) (cond (!eqD aM (ix eG (ix ah s.1 i).2.2.1 0).2.1 (0,ß,[],0,())) (cond (0≤(0:Int)&&0<((ix ah s.1 i).2.2.1.length:Int)) (cond (List.length f+List.length ([((ix ah s.1 i).1,(ix ah s.1 i).2.1,(ix eG (ix ah s.1 i).2.2.1 0).2.1,())]:List aa.den)≤LIM) (AX g j i s (f++[((ix ah s.1 i).1,(ix ah s.1 i).2.1,(ix eG (ix ah s.1 i).2.2.1 0).2.1,())])) ö) ö) (AX g j i s f)) ö) ö) (ä (.val aP (f,()))):=Φ
def zt (f j:Nat)(i:Int)(s:ai.den)(g:(List aa.den)):AX f j i s g=(vG f j s (w64 (i+1)) g):=Φ
def Xt (f:Nat)(s:ai.den):xK f s=(vG f f s 0 []):=Φ
def Xs:bD prog FQ→FiOk prog 94 (OZ):=λh=>⟨⟨f94,func94,rfl,Φ,Φ,Φ⟩,qQ,ag h⟩
def FP:Ent:=sp1 ai (λf=>stG f) λf=>.val aP (eU f)
def SA (p:bD prog FQ)(h:∀(f:ai.den),stG f=ü→∃g,xK g f=ä (.val aP (eU f))):aj prog 94 FP:=qS λf j=>(let ⟨_,l⟩:=h f j;bi follows (λ_ _ h=>by cases h) d7 (Xs p) (ds:=[⟨_,f⟩]) l)
def Fb:MS:=⟨1,[(0,[.bb (.slice ah)])],[(1,.bb tInt),(2,.bb tInt),(3,.keep),(7,.bb tInt),(8,.bb tInt)]⟩
def Fd:List (Nat×Ent):=[(145,wq)]
def Fe:Par:=⟨El.tab,az Fd,λ_=>look [],λ_=>look [(2,Fb)]⟩
def Fc:Code:=(f182.body).getD .skip
def Oy:Fi:=⟨Fe,39,[.tmp 6],Fc⟩
def Xb:Code:=sub Fc [1,1,0,0,0]
def Xa:Code:=sub Fc [1,1,1]
def aat:KT:=bq El.tab [.tmp 6] [tInt]
def gC (f:Nat)(n:Nat)(id:Int)(field:Int)(s:ai.den)(j:Int)(l:Int):Option AV:=aN 0 Fb (λg k=>exec (bo fi0 hs0 f 0) Fe 0 f Xb g k) (ak 0 (aW 0 ö (λg k=>exec (bo fi0 hs0 f 0) Fe 0 f Xa g k) aat)) n ⟨mkE 39 [(1,.val tInt id),(2,.val tInt field),(3,.box 0 0),(7,.val tInt j),(8,.val tInt l)],mkH 1 [(0,.box [.val (.slice ah) s.1])]⟩
def xF (f:Nat)(s:ai.den)(id:Int)(field:Int):Option AV:=mT fi0 hs0 0 Oy [tInt] f [.val ai s,.val tInt id,.val tInt field]
def Hv (j l:Nat)(id:Int)(field:Int)(s:ai.den)(f:Int)(g:Int):gC j (l+1) id field s f g=cond (f<g) (cond (!(2:Int)=0) (cond (0≤w64 (Int.tdiv (w64 (f+g)) 2)&&w64 (Int.tdiv (w64 (f+g)) 2)<(s.1.length:Int)) (cond (0≤w64 (Int.tdiv (w64 (f+g)) 2)&&w64 (Int.tdiv (w64 (f+g)) 2)<(s.1.length:Int)) (cond (uz (ix ah s.1 (w64 (Int.tdiv (w64 (f+g)) 2))).1 (ix ah s.1 (w64 (Int.tdiv (w64 (f+g)) 2))).2.1 id field) (gC j l id field s (w64 (w64 (Int.tdiv (w64 (f+g)) 2)+1)) g) (gC j l id field s f (w64 (Int.tdiv (w64 (f+g)) 2)))) ö) ö) ö) (ä (.val tInt f)):=Φ
def K7 (f l:Nat)(id:Int)(field:Int)(s:ai.den)(g:Int)(j:Int):gC f (l+1) id field s g j=cond (g<j) (cond (0≤w64 (Int.tdiv (w64 (g+j)) 2)&&w64 (Int.tdiv (w64 (g+j)) 2)<(s.1.length:Int)) (cond (0≤w64 (Int.tdiv (w64 (g+j)) 2)&&w64 (Int.tdiv (w64 (g+j)) 2)<(s.1.length:Int)) (cond (uz (ix ah s.1 (w64 (Int.tdiv (w64 (g+j)) 2))).1 (ix ah s.1 (w64 (Int.tdiv (w64 (g+j)) 2))).2.1 id field) (gC f l id field s (w64 (w64 (Int.tdiv (w64 (g+j)) 2)+1)) j) (gC f l id field s g (w64 (Int.tdiv (w64 (g+j)) 2)))) ö) ö) (ä (.val tInt g)):=by simpa only[aI,cd,v?,h?,U',I_,B?,t?,m?,u?,Int.reduceLE,Int.reduceEq,Int.reduceLT,Z']using Hv f l id field s g j
def W8 (f:Nat)(s:ai.den)(id:Int)(field:Int):xF f s id field=(gC f f id field s 0 (s.1.length:Int)):=Φ
def W7:bD prog Fd→FiOk prog 182 (Oy):=λh=>⟨⟨f182,func182,rfl,Φ,Φ,Φ⟩,qQ,ag h⟩
def za:Ent:=sp3 ai tInt tInt (λj g f=>cj j g f) λj g f=>.val tInt (af j g f)
def R6 (C:bD prog Fd)(h:∀(j:ai.den) (g:Int) (f:Int),cj j g f=ü→∃l,xF l j g f=ä (.val tInt (af j g f))):aj prog 182 za:=ZQ λj g f p=>(let ⟨_,r⟩:=h j g f p;bi follows (λ_ _ h=>by cases h) d7 (W7 C) (ds:=[⟨_,j⟩,⟨_,g⟩,⟨_,f⟩]) r)
def Mw:List (Nat×Ent):=[(182,za)]
def agf:Par:=⟨El.tab,az Mw,λ_=>look [],λ_=>look []⟩
def age:Code:=(f141.body).getD .skip
def VF:Fi:=⟨agf,43,[.tmp 6],age⟩
def wj (f:Nat)(s:ai.den)(id:Int)(field:Int):Option AV:=mT fi0 hs0 0 VF [.slice eG] f [.val ai s,.val tInt id,.val tInt field]
def YO (f:Nat)(s:ai.den)(id:Int)(field:Int):wj f s id field=cond (cj s id field) (cond (aL (decide (af s id field<(s.1.length:Int))) (decide (af s id field<(s.1.length:Int)))&&ü&&ü) (cond (aL (decide (af s id field<(s.1.length:Int))) (decide (af s id field<(s.1.length:Int)))&&(aL (decide (af s id field<(s.1.length:Int))) (decide (af s id field<(s.1.length:Int)))&&ü)&&aL (decide (af s id field<(s.1.length:Int))) (0≤af s id field&&af s id field<(s.1.length:Int))) (cond (aL (decide (af s id field<(s.1.length:Int))) (decide (af s id field<(s.1.length:Int)))&&ü&&ü) (cond (aL (decide (af s id field<(s.1.length:Int))) (decide (af s id field<(s.1.length:Int)))&&ü&&ü) (cond (aL (decide (af s id field<(s.1.length:Int))) (decide (af s id field<(s.1.length:Int)))&&(aL (decide (af s id field<(s.1.length:Int))) (decide (af s id field<(s.1.length:Int)))&&ü)&&ü) (cond (aL (decide (af s id field<(s.1.length:Int))) (decide (af s id field<(s.1.length:Int)))&&ü) (cond (aL (cond (af s id field<(s.1.length:Int)) (decide ((ix ah s.1 (af s id field)).1=id)) ß) (cond (af s id field<(s.1.length:Int)) (decide ((ix ah s.1 (af s id field)).1=id)) ß)&&ü&&ü) (cond (aL (cond (af s id field<(s.1.length:Int)) (decide ((ix ah s.1 (af s id field)).1=id)) ß) (cond (af s id field<(s.1.length:Int)) (decide ((ix ah s.1 (af s id field)).1=id)) ß)&&(aL (cond (af s id field<(s.1.length:Int)) (decide ((ix ah s.1 (af s id field)).1=id)) ß) (cond (af s id field<(s.1.length:Int)) (decide ((ix ah s.1 (af s id field)).1=id)) ß)&&ü)&&aL (cond (af s id field<(s.1.length:Int)) (decide ((ix ah s.1 (af s id field)).1=id)) ß) (0≤af s id field&&af s id field<(s.1.length:Int))) (cond (aL (cond (af s id field<(s.1.length:Int)) (decide ((ix ah s.1 (af s id field)).1=id)) ß) (cond (af s id field<(s.1.length:Int)) (decide ((ix ah s.1 (af s id field)).1=id)) ß)&&ü&&ü) (cond (aL (cond (af s id field<(s.1.length:Int)) (decide ((ix ah s.1 (af s id field)).1=id)) ß) (cond (af s id field<(s.1.length:Int)) (decide ((ix ah s.1 (af s id field)).1=id)) ß)&&ü&&ü) (cond (aL (cond (af s id field<(s.1.length:Int)) (decide ((ix ah s.1 (af s id field)).1=id)) ß) (cond (af s id field<(s.1.length:Int)) (decide ((ix ah s.1 (af s id field)).1=id)) ß)&&(aL (cond (af s id field<(s.1.length:Int)) (decide ((ix ah s.1 (af s id field)).1=id)) ß) (cond (af s id field<(s.1.length:Int)) (decide ((ix ah s.1 (af s id field)).1=id)) ß)&&ü)&&ü) (cond (aL (cond (af s id field<(s.1.length:Int)) (decide ((ix ah s.1 (af s id field)).1=id)) ß) (cond (af s id field<(s.1.length:Int)) (decide ((ix ah s.1 (af s id field)).1=id)) ß)&&ü) (cond (cond (cond (af s id field<(s.1.length:Int)) ((ix ah s.1 (af s id field)).1=id) ß) ((ix ah s.1 (af s id field)).2.1=field) ß) (cond (0≤af s id field&&af s id field<(s.1.length:Int)) (ä (.val (.slice eG) (ix ah s.1 (af s id field)).2.2.1)) ö) (ä (.val (.slice eG) []))) ö) ö) ö) ö) ö) ö) ö) ö) ö) ö) ö) ö) none:=Φ
def adl (f:Nat)(s:ai.den)(id:Int)(field:Int):wj f s id field=cond (cj s id field) (cond (aL (decide (af s id field<(s.1.length:Int))) (0≤af s id field&&af s id field<(s.1.length:Int))) (cond (aL (cond (af s id field<(s.1.length:Int)) (decide ((ix ah s.1 (af s id field)).1=id)) ß) (0≤af s id field&&af s id field<(s.1.length:Int))) (cond (cond (cond (af s id field<(s.1.length:Int)) ((ix ah s.1 (af s id field)).1=id) ß) ((ix ah s.1 (af s id field)).2.1=field) ß) (cond (0≤af s id field&&af s id field<(s.1.length:Int)) (ä (.val (.slice eG) (ix ah s.1 (af s id field)).2.2.1)) ö) (ä (.val (.slice eG) []))) ö) ö) none:=by simpa only[aI,cd,v?,h?,U',I_,B?,t?,m?,u?,Int.reduceLE,Int.reduceEq,Int.reduceLT,Z']using YO f s id field
def adk:bD prog Mw→FiOk prog 141 (VF):=λh=>⟨⟨f141,func141,rfl,Φ,Φ,Φ⟩,qQ,ag h⟩
def DH:Ent:=sp3 ai tInt tInt (λj g f=>cj j g f) λj g f=>.val (.slice eG) (iw j g f)
def YP (C:bD prog Mw)(h:∀(j:ai.den) (g:Int) (f:Int),cj j g f=ü→∃l,wj l j g f=ä (.val (.slice eG) (iw j g f))):aj prog 141 DH:=ZQ λj g f p=>(let ⟨_,r⟩:=h j g f p;bi follows (λ_ _ h=>by cases h) d7 (adk C) (ds:=[⟨_,j⟩,⟨_,g⟩,⟨_,f⟩]) r)
def ZX:MS:=⟨2,[(0,[.bb (.slice ah)]),(1,[.own ah 146])],[(1,.bb tInt),(2,.bb tInt),(4,.keep),(8,.keep),(9,.bb tInt),(10,.own ah 146)]⟩
def ZW:MS:=⟨2,[(0,[.bb (.slice ah)]),(1,[.own ah 146])],[(4,.keep),(8,.keep),(9,.bb tInt),(10,.own ah 146)]⟩
def Rz:List (Nat×Ent):=[(182,za)]
def RB:Par:=⟨El.tab,az Rz,λ_=>look [(5,ZX),(7,ZW)],λ_=>look []⟩
def Ry:Code:=(f142.body).getD .skip
def Z4:Fi:=⟨RB,65,[.cell 8 96],Ry⟩
def adZ:Code:=sub Ry [1,1,1,1]
def adY:Code:=sub Ry [1,1,1,1,1]
def ZZ:KT:=bq El.tab [.cell 8 96] [ai]
def yI (f:Nat)(id:Int)(field:Int)(s:ai.den)(out:(List ah.den)):Option AV:=exec (bo fi0 hs0 f 0) RB 0 f adZ ⟨mkE 65 [(1,.val tInt id),(2,.val tInt field),(4,.box 0 0),(8,.box 1 0),(9,.val tInt (af s id field)),(10,.own 3 0 ah out)],mkH 4 [(0,.box [.val (.slice ah) s.1]),(1,.box [.own 2 0 ah []]),(2,.row ah 146 0),(3,.row ah 146 0)]⟩ ZZ
def u5 (f:Nat)(out:(List ah.den))(s:ai.den)(g:Int):Option AV:=exec (bo fi0 hs0 f 0) RB 0 f adY ⟨mkE 65 [(4,.box 0 0),(8,.box 1 0),(9,.val tInt g),(10,.own 3 0 ah out)],mkH 4 [(0,.box [.val (.slice ah) s.1]),(1,.box [.own 2 0 ah []]),(2,.row ah 146 0),(3,.row ah 146 0)]⟩ ZZ
def EA (f:Nat)(s:ai.den)(id:Int)(field:Int)(l:(List eG.den)):Option AV:=mT fi0 hs0 0 Z4 [ai] f [.val ai s,.val tInt id,.val tInt field,.val (.slice eG) l]
def NO (f:Nat)(id:Int)(field:Int)(s:ai.den)(out:(List ah.den)):yI f id field s out=cond (aL (decide (af s id field<(s.1.length:Int))) (decide (af s id field<(s.1.length:Int)))&&ü&&ü) (cond (aL (decide (af s id field<(s.1.length:Int))) (decide (af s id field<(s.1.length:Int)))&&(aL (decide (af s id field<(s.1.length:Int))) (decide (af s id field<(s.1.length:Int)))&&ü)&&aL (decide (af s id field<(s.1.length:Int))) (0≤af s id field&&af s id field<(s.1.length:Int))) (cond (aL (decide (af s id field<(s.1.length:Int))) (decide (af s id field<(s.1.length:Int)))&&ü&&ü) (cond (aL (decide (af s id field<(s.1.length:Int))) (decide (af s id field<(s.1.length:Int)))&&ü&&ü) (cond (aL (decide (af s id field<(s.1.length:Int))) (decide (af s id field<(s.1.length:Int)))&&(aL (decide (af s id field<(s.1.length:Int))) (decide (af s id field<(s.1.length:Int)))&&ü)&&ü) (cond (aL (decide (af s id field<(s.1.length:Int))) (decide (af s id field<(s.1.length:Int)))&&ü) (cond (aL (cond (af s id field<(s.1.length:Int)) (decide ((ix ah s.1 (af s id field)).1=id)) ß) (cond (af s id field<(s.1.length:Int)) (decide ((ix ah s.1 (af s id field)).1=id)) ß)&&ü&&ü) (cond (aL (cond (af s id field<(s.1.length:Int)) (decide ((ix ah s.1 (af s id field)).1=id)) ß) (cond (af s id field<(s.1.length:Int)) (decide ((ix ah s.1 (af s id field)).1=id)) ß)&&(aL (cond (af s id field<(s.1.length:Int)) (decide ((ix ah s.1 (af s id field)).1=id)) ß) (cond (af s id field<(s.1.length:Int)) (decide ((ix ah s.1 (af s id field)).1=id)) ß)&&ü)&&aL (cond (af s id field<(s.1.length:Int)) (decide ((ix ah s.1 (af s id field)).1=id)) ß) (0≤af s id field&&af s id field<(s.1.length:Int))) (cond (aL (cond (af s id field<(s.1.length:Int)) (decide ((ix ah s.1 (af s id field)).1=id)) ß) (cond (af s id field<(s.1.length:Int)) (decide ((ix ah s.1 (af s id field)).1=id)) ß)&&ü&&ü) (cond (aL (cond (af s id field<(s.1.length:Int)) (decide ((ix ah s.1 (af s id field)).1=id)) ß) (cond (af s id field<(s.1.length:Int)) (decide ((ix ah s.1 (af s id field)).1=id)) ß)&&ü&&ü) (cond (aL (cond (af s id field<(s.1.length:Int)) (decide ((ix ah s.1 (af s id field)).1=id)) ß) (cond (af s id field<(s.1.length:Int)) (decide ((ix ah s.1 (af s id field)).1=id)) ß)&&(aL (cond (af s id field<(s.1.length:Int)) (decide ((ix ah s.1 (af s id field)).1=id)) ß) (cond (af s id field<(s.1.length:Int)) (decide ((ix ah s.1 (af s id field)).1=id)) ß)&&ü)&&ü) (cond (aL (cond (af s id field<(s.1.length:Int)) (decide ((ix ah s.1 (af s id field)).1=id)) ß) (cond (af s id field<(s.1.length:Int)) (decide ((ix ah s.1 (af s id field)).1=id)) ß)&&ü) (cond (cond (cond (af s id field<(s.1.length:Int)) ((ix ah s.1 (af s id field)).1=id) ß) ((ix ah s.1 (af s id field)).2.1=field) ß) (u5 f out s (w64 (af s id field+1))) (u5 f out s (af s id field))) ö) ö) ö) ö) ö) ö) ö) ö) ö) ö) ö) none:=Φ
def Rw (f:Nat)(id:Int)(field:Int)(s:ai.den)(out:(List ah.den)):yI f id field s out=cond (aL (decide (af s id field<(s.1.length:Int))) (0≤af s id field&&af s id field<(s.1.length:Int))) (cond (aL (cond (af s id field<(s.1.length:Int)) (decide ((ix ah s.1 (af s id field)).1=id)) ß) (0≤af s id field&&af s id field<(s.1.length:Int))) (cond (cond (cond (af s id field<(s.1.length:Int)) ((ix ah s.1 (af s id field)).1=id) ß) ((ix ah s.1 (af s id field)).2.1=field) ß) (u5 f out s (w64 (af s id field+1))) (u5 f out s (af s id field))) ö) none:=by simpa only[aI,cd,v?,h?,U',I_,B?,t?,m?,u?,Int.reduceLE,Int.reduceEq,Int.reduceLT,Z']using NO f id field s out
def Rv (g:Nat)(out:(List ah.den))(s:ai.den)(f:Int):u5 g out s f=cond (0≤f&&f≤(s.1.length:Int)) (cond (List.length out+List.length ((List.take (List.length s.1) s.1).drop (Int.toNat f))≤LIM) (ä (.val ai (out++(List.take (List.length s.1) s.1).drop (Int.toNat f),()))) ö) none:=Φ
def adX (f:Nat)(s:ai.den)(id:Int)(field:Int)(l:(List eG.den)):EA f s id field l=cond (cj s id field) (cond (0≤af s id field&&af s id field≤(s.1.length:Int)) (cond (List.length ([]:List ah.den)+List.length ((List.take (Int.toNat (af s id field)) s.1).drop 0)≤LIM) (cond ((l.length:Int)>0) (cond (List.length ([]++(List.take (Int.toNat (af s id field)) s.1).drop 0)+List.length ([(id,field,l,())]:List ah.den)≤LIM) (yI f id field s ([]++(List.take (Int.toNat (af s id field)) s.1).drop 0++[(id,field,l,())])) ö) (yI f id field s ([]++(List.take (Int.toNat (af s id field)) s.1).drop 0))) ö) ö) none:=Φ
def adW:bD prog Rz→FiOk prog 142 (Z4):=λh=>⟨⟨f142,func142,rfl,Φ,Φ,Φ⟩,qQ,ag h⟩
def Rx:Ent:=sp4 ai tInt tInt (.slice eG) (λl j g f=>ad0 l j g f) λl j g f=>.val ai (oD l j g f)
def ZY (J:bD prog Rz)(h:∀(l:ai.den) (j:Int) (g:Int) (f:(List eG.den)),ad0 l j g f=ü→∃p,EA p l j g f=ä (.val ai (oD l j g f))):aj prog 142 Rx:=ZP λl j g f r=>(let ⟨_,C⟩:=h l j g f r;bi follows (λ_ _ h=>by cases h) d7 (adW J) (ds:=[⟨_,l⟩,⟨_,j⟩,⟨_,g⟩,⟨_,f⟩]) C)
def qI {n:Int}(g : -9223372036854775808≤n)(f:n<9223372036854775808):w64 n=n:=by unfold w64;simp[IntKind.wrap,IntKind.bits,IntKind.signed];omega
def adC {n:Nat}(h:n<9223372036854775808):w64 (n:Int)=n:=qI Ω Ω
variable{t:Ty}{p:Prop}{s:Sta}
def eX (p:List t.den)(c:t.den)(r:List t.den):ix t (p++c::r) (p.length:Int)=c:=by simp[ix]
def Lv (p:List t.den)(c:t.den)(r:List t.den):decide ((p.length:Int)<((p++c::r).length:Int))=true:=by simp;omega
def SF (p:List t.den):decide ((p.length:Int)<((p++[]).length:Int))=false:=by simp
def aaN (p:List t.den):decide (0≤(p.length:Int))=true:=by simp
def Sq (p:List t.den)(c:t.den)(h:p.length<9223372036854775807):w64 ((p.length:Int)+1)=((p++[c]).length:Int):=by rw[qI Ω Ω];simp
def aiH (p:List t.den)(c:t.den)(r:List t.den):p++c::r=(p++[c])++r:=by simp
def afb (a b:Bool):aL a b=(!a||b):=by cases a <;> cases b <;> rfl
def dt [Decidable p](h:p):decide p=true:=Q_ h
def df [Decidable p](h:¬p):decide p=false:=I? h
def XS (x:Int):oG x=false:=by simp[oG]
def acA (x y:Int):Qr x y=afd x y:=by simp[Qr,XS,afd];by_cases h:x<y <;> by_cases f:y<x <;> simp[h,f]
def wt (i f i2 g:Int):uz i f i2 g=ahd i f i2 g:=by unfold uz ahd;by_cases p:i<i2 <;> by_cases l:i=i2 <;> by_cases j:f<g <;> simp[p,l,j]
def GK:∀(t:Ty) (x:t.den),t.fu=ü→eqD t x x=ü
 |.int _,x,_=>by simp[eqD]
 |.bool,x,_=>by simp[eqD]
 |.str,x,_=>by simp[eqD]
 |.unit,_,_=>rfl
 |.cons a b,x,h=>by simp[Ty.fu]at h;simp[eqD,GK a x.1 h.1.1,GK b x.2 h.1.2]
 |.slice _,_,h=>by simp[Ty.fu]at h
 |.tree,_,h=>by simp[Ty.fu]at h
def L0:∀(t:Ty) (x y:t.den),eqD t x y=ü→x=y
 |.int _,x,y,h=>by simpa[eqD]using h
 |.bool,x,y,h=>by simpa[eqD]using h
 |.str,x,y,h=>by simpa[eqD]using h
 |.unit,_,_,_=>rfl
 |.cons a b,x,y,h=>by simp[eqD]at h;exact Prod.ext (L0 a _ _ h.1) (L0 b _ _ h.2)
 |.slice _,_,_,h=>by simp[eqD]at h
 |.tree,_,_,h=>by simp[eqD]at h
def ae0 (c:t.den)(r:List t.den):ix t (c::r) 0=c:=rfl
def Sz (x:Slt)(r:List Slt):(eU (x::r,())).1=(bif !eqD aM (ue x) zv then[(x.1,x.2.1,ue x,())]else[])++(eU (r,())).1:=by simp[eU,S?];cases eqD aM (ue x) zv <;> simp
def Wt (h:stG s=ü):s.1.length≤1048576∧∀x∈s.1,x.2.2.1≠[]∧x.2.2.1.length≤1048576:=by simp only[stG,θ,υ,P']at h;refine⟨h.1,λx f=>?_⟩;have:=h.2 x f;simp[ahP]at this;exact⟨λe=>by rw[e]at this;simp at this,this.2⟩
def OY (C:Nat)(u:Unit):∀(n:Nat) (r p:List Slt) (f:List Cel),r.length<n→(p++r).length≤1048576→(∀x∈r,x.2.2.1≠[])→f.length≤p.length →
  vG C n (p++r,u) (p.length:Int) f=ä (.val aP (f++(eU (r,())).1,())):=by
 intro n;induction n with
 |zero=>intro r p f h;omega
 |succ n T=>
  intro r p f h hl j ha;cases r with
  |nil=>rw[zr];dsimp only;rw[SF (t:=ah)];simp[eU]
  |cons c r=>
   obtain⟨ci,R,J,P⟩:=c;cases J with
   |nil=>exact absurd rfl (j _ (m_ ..))
   |cons a J=>
    have hl':p.length+(r.length+1)≤1048576:=by simpa using hl
    have next:=λg (h':g.length≤p.length+1)=>T r (p++[(ci,R,a::J,P)]) g (by simp at h;omega) Ξ (λx U=>j x (e_ _ U)) (by simpa using h')
    rw[←aiH (t:=ah),←Sq (t:=ah) p (ci,R,a::J,P) Ω]at next
    rw[zr];dsimp only;rw[eX (t:=ah),Lv (t:=ah),aaN (t:=ah),zt,zt,next _ Ξ,next _ Ω];dsimp only;rw[ae0 (t:=eG),Sz];have l:f.length+1≤LIM:=by simp[LIM];omega
    have hq:decide ((0:Int)<((a::J).length:Int))=true:=dt Ψ;rw[hq];simp[ue,zv];cases eqD aM a.2.1 (0,ß,[],0,()) <;> simp[l]
def Ls (s:Sta)(h:stG s=ü):∃f,xK f s=ä (.val aP (eU s)):=by obtain⟨p,j⟩:=Wt h;obtain⟨l,u⟩:=s;refine⟨l.length+1, ?_⟩;rw[Xt];exact OY _ u (l.length+1) l [] [] Ω p (λx g=>(j x g).1) Ψ
def sd {i f j g:Int}:ahd i f j g=ü↔i<j∨(i=j∧f<g):=by simp[ahd]
def aiK {i f j g:Int}:ahd i f j g=ß ↔ ¬(i<j∨(i=j∧f<g)):=by rw[←sd];simp
def lg {i f j g k h:Int}(p:ahd i f j g=ü)(l:ahd j g k h=ü):ahd i f k h=true:=by rw[sd]at *;omega
def VI {i f j g:Int}(h:ahd i f j g=ß)(l:¬(i=j∧f=g)):ahd j g i f=true:=by rw[aiK]at h;rw[sd];omega
def aas {L:List Slt}(J:L.Pairwise jM)(id field:Int):∀m,m<L.length→ahd (L.getD m (zero ah)).1 (L.getD m (zero ah)).2.1 id field=decide (m<(L.takeWhile (λx=>ahd x.1 x.2.1 id field)).length):=by
 induction L with
 |nil=>intro m j;simp at j
 |cons x L r=>
  obtain⟨R,P⟩:=B_.1 J;intro m j;rw[List.takeWhile_cons];cases l:ahd x.1 x.2.1 id field with
  |true=>
   cases m with
   |zero=>simp[List.getD,l]
   |succ m =>have:=r P m (by simpa using j);simpa[List.getD]using this
  |false=>
   cases m with
   |zero=>simp[List.getD,l]
   |succ m=>
    have g:m<L.length:=by simpa using j
    have f:L.getD m (zero ah)∈L:=by simp only[List.getD,ζ g,alo];exact j_ g
    have p:=R _ f;have e:(x::L).getD (m+1) (zero ah)=L.getD m (zero ah):=by simp[List.getD]
    rw[e];cases C:ahd (L.getD m (zero ah)).1 (L.getD m (zero ah)).2.1 id field with
    |false=>simp
    |true =>have:=lg p C;rw[l]at this;cases this
def R5 (j:Nat)(id field:Int)(L:List Slt)(u:Unit)(hl:L.length≤1048576)(r:L.Pairwise jM):∀(n f g:Nat),g-f<n→f≤(L.takeWhile (λx=>ahd x.1 x.2.1 id field)).length→(L.takeWhile (λx=>ahd x.1 x.2.1 id field)).length≤g→g≤L.length →
  gC j n id field (L,u) (f:Int) (g:Int)=ä (.val tInt ((L.takeWhile (λx=>ahd x.1 x.2.1 id field)).length:Int)):=by
 intro n;induction n with
 |zero=>intro f g h;omega
 |succ n l=>
  intro f g h U T R;rw[K7];dsimp only;by_cases P:f<g
  ·have e1:w64 ((f:Int)+(g:Int))=((f+g:Nat):Int):=by rw[qI Ω Ω];simp
   have e2:Int.tdiv ((f+g:Nat):Int) 2=(((f+g)/2:Nat):Int):=rfl;have e3:w64 (((f+g)/2:Nat):Int)=(((f+g)/2:Nat):Int):=adC Ω;rw[e1,e2,e3];generalize hm:(f+g)/2=m;have J:f≤m:=Ω
   have C:m<g:=Ω
   have e4:w64 ((m:Int)+1)=((m+1:Nat):Int):=by rw[qI Ω Ω];simp
   have e5:ix ah L (m:Int)=L.getD m (zero ah):=by simp[ix]
   rw[e4,e5,wt,aas r id field m Ω];have c1:decide ((f:Int)<(g:Int))=true:=dt Ω;have c2:decide ((0:Int)≤(m:Int))=true:=dt Ω;have c3:decide ((m:Int)<(L.length:Int))=true:=dt Ω;rw[c1,c2,c3];simp;by_cases p:m<(L.takeWhile (λx=>ahd x.1 x.2.1 id field)).length
   ·rw[dt p,U'];exact l (m+1) g Ω Ω T R
   ·rw[df p,I_];exact l f m Ω U Ω Ω
  ·have c1:decide ((f:Int)<(g:Int))=false:=df Ω;have e:(L.takeWhile (λx=>ahd x.1 x.2.1 id field)).length=f:=Ω
   rw[c1,I_,e]
def zb {id field:Int}(h:cj s id field=ü):s.1.length≤1048576∧s.1.Pairwise jM:=by simpa[cj,agd]using h
def K6 (s:Sta)(id field:Int)(h:cj s id field=ü):∃f,xF f s id field=ä (.val tInt (af s id field)):=by obtain⟨j,g⟩:=zb h;obtain⟨l,u⟩:=s;refine⟨l.length+1, ?_⟩;rw[W8];exact R5 _ id field l u j g (l.length+1) 0 l.length Ω (Y' _) (List.takeWhile_sublist _).length_le (ε _)
def C0 (s:Sta)(id field:Int):s.1=before s id field++mN s id field:=(List.takeWhile_append_dropWhile).symm
def QI (s:Sta)(id field:Int)(h:cj s id field=ü):∃f,wj f s id field=ä (.val (.slice eG) (iw s id field)):=by
 refine⟨0, ?_⟩;rw[adl,h];have g:=C0 s id field;unfold iw af;generalize before s id field=p at *;cases j:mN s id field with
 |nil =>rw[j]at g;rw[g];have c:decide ((p.length:Int)<((p++[]).length:Int))=false:=df Ψ;rw[c];simp[GH]
 |cons x r =>rw[j]at g;rw[g,eX (t:=ah),Lv (t:=ah),aaN (t:=ah)];simp[cd];by_cases C:x.1=id <;> by_cases l:x.2.1=field <;> simp[C,l]
def aca (p:List t.den)(c:t.den)(r:List t.den):List.drop (p.length+1) (p++c::r)=r:=by rw[←List.drop_drop];simp
def Ru (s:Sta)(id field:Int)(l:List Alt)(h:ad0 s id field l=ü):∃g,EA g s id field l=ä (.val ai (oD s id field l)):=by
 refine⟨0, ?_⟩;have hG:cj s id field=true:=h;obtain⟨h1,_⟩:=zb hG;have f:=C0 s id field;unfold oD;have C:∀(out:List Slt) (k:Nat),out.length≤2097152→k≤s.1.length→u5 0 out s (k:Int)=ä (.val ai (out++s.1.drop k,())):=by intro out k j p;rw[Rv];have c1:decide ((0:Int)≤(k:Int))=true:=dt Ω;have c2:decide ((k:Int)≤(s.1.length:Int))=true:=dt Ω;have P:decide (out.length+((List.take s.1.length s.1).drop (Int.toNat (k:Int))).length≤LIM)=true:=dt (by simp[LIM];omega);rw[c1,c2,P];simp
 have R:∀out:List Slt,out.length≤2097152→yI 0 id field s out=ä (.val ai (out++Yn id field (mN s id field),())):=by
  intro out j;have p:(before s id field).length≤s.1.length:=by rw[f];simp
  rw[Rw];unfold af;cases T:mN s id field with
  |nil=>
   rw[T]at f;have c:decide (((before s id field).length:Int)<(s.1.length:Int))=false:=df (by rw[f];simp);rw[c,C out _ j p];have hd:s.1.drop (before s id field).length=[]:=by rw[f];simp
   rw[hd];simp[GH,Yn]
  |cons x r=>
   rw[T]at f;have J:(before s id field).length+1≤s.1.length:=by rw[f];simp
   have e1:ix ah s.1 ((before s id field).length:Int)=x:=by rw[f];exact eX (t:=ah) _ _ _
   have c1:decide (((before s id field).length:Int)<(s.1.length:Int))=true:=dt Ω;have c2:decide ((0:Int)≤((before s id field).length:Int))=true:=dt Ω;have e2:w64 (((before s id field).length:Int)+1)=(((before s id field).length+1:Nat):Int):=by rw[qI Ω Ω];simp
   have d1:s.1.drop (before s id field).length=x::r:=by rw[f];simp
   have d2:s.1.drop ((before s id field).length+1)=r:=by rw[f];exact aca (t:=ah) _ _ _
   rw[e1,c1,c2,e2,C out _ j p,C out _ j J,d1,d2];simp[cd];by_cases g1:x.1=id <;> by_cases g2:x.2.1=field <;> simp[g1,g2,Yn]
 rw[adX,hG];unfold af;have p:(before s id field).length≤s.1.length:=by rw[f];simp
 have U:(List.take (Int.toNat ((before s id field).length:Int)) s.1).drop 0=before s id field:=by simp;rw[f];simp
 have c1:decide ((0:Int)≤((before s id field).length:Int))=true:=dt Ω;have c2:decide (((before s id field).length:Int)≤(s.1.length:Int))=true:=dt Ω;have P:decide (([]:List Slt).length+(before s id field).length≤LIM)=true:=dt (by simp[LIM];omega);have c4:decide ((([]:List Slt)++before s id field).length+([(id,field,l,())]:List Slt).length≤LIM)=true:=dt (by simp[LIM];omega);rw[U,c1,c2,P,c4,R _ Ξ,R _ Ξ];cases l with
 |nil=>simp
 |cons a l =>have c5:decide (((a::l).length:Int)>0)=true:=dt Ψ;rw[c5];simp
def wL {f:Type}(p:f→Bool):∀(l:List f),∀x∈l.takeWhile p,p x=ü
 |[],x,h=>by simp at h
 |y::l,x,h=>by
  rw[List.takeWhile_cons]at h;split at h
  next hy=>
   obtain rfl|h:=c_.1 h
   ·exact hy
   ·exact wL p l x h
  ·simp at h
def uk {f:Type}(p:f→Bool):∀(l:List f) (x:f) (r:List f),l.dropWhile p=x::r→p x=ß
 |[],x,r,h=>by simp at h
 |y::l,x,r,h=>by
  rw[List.dropWhile_cons]at h;split at h
  ·exact uk p l x r h
  next hy=>injection h with h1 h2;subst h1;simpa using hy
def Xr (s:Sta):(eU s).1.length≤s.1.length:=by simp only[eU,G'];exact H_ _ _
def ae3:aj prog 70 Ds:=XR trivial
def ain:aj prog 41 Mf:=acy ⟨ae3,apa⟩
def Mz:aj prog 145 wq:=YT trivial
def aaS:aj prog 94 FP:=SA trivial  Ls
def Ox:aj prog 182 za:=R6 ⟨Mz,apa⟩  K6
def Mv:aj prog 141 DH:=YP ⟨Ox,apa⟩  QI
def ahh:aj prog 142 Rx:=ZY ⟨Ox,apa⟩  Ru
