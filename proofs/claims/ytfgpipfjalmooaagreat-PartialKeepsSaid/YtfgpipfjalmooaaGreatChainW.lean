/- Every function's contract. -/
import Derived.Test.YtfgpipfjalmooaaGreatGenG
set_option linter.all false
noncomputable section
namespace Go.Proofs.YtfgpipfjalmooaaGreat
namespace Abs
abbrev eL:Ty:=(.cons tInt (.cons aN .unit))
abbrev ag:Ty:=.cons tInt (.cons tInt (.cons (.slice eL) .unit))
abbrev ah:Ty:=(.cons (.slice ag) .unit)
abbrev Val:=aN.den
abbrev Alt:=eL.den
abbrev Slt:=ag.den
abbrev Sta:=ah.den
abbrev Cel:=aa.den
abbrev Mdl:=aO.den
def afE (x y:Int):Int:=if x<y then -1 else if y<x then 1 else 0
def zv:Val:=(0,false,[],0,())
def ahd (i f i2 g:Int):Bool:=i<i2||i=i2&&f<g
def afg (l:List Alt):Bool:=decide (l.length≤1048576)
def stG (s:Sta):Bool:=s.1.length≤1048576&&s.1.all λx=>!x.2.2.1.isEmpty&&afg x.2.2.1
def uQ (x:Slt):Val:=match x.2.2.1 with|a::_=>a.2.1|[]=>zv
def eX (s:Sta):Mdl:=((s.1.filter λx=>!eqD aN (uQ x) zv).map λx=>(x.1,x.2.1,uQ x,()),())
def kC (a b:Slt):Prop:=ahd a.1 a.2.1 b.1 b.2.1=true
instance slotDec (a b:Slt):Decidable (kC a b):=inferInstanceAs (Decidable (_=true))
def agB (l:List Slt):Bool:=decide (l.Pairwise kC)
def ca (s:Sta)(_ _:Int):Bool:=s.1.length≤1048576&&agB s.1
def before (s:Sta)(id field:Int):List Slt:=s.1.takeWhile λx=>ahd x.1 x.2.1 id field
def nC (s:Sta)(id field:Int):List Slt:=s.1.dropWhile λx=>ahd x.1 x.2.1 id field
def ae (s:Sta)(id field:Int):Int:=((before s id field).length:Int)
def iU (s:Sta)(id field:Int):List Alt:=match nC s id field with
 |x::_=>if x.1=id∧x.2.1=field then x.2.2.1 else[]
 |[]=>[]
def Y0 (id field:Int):List Slt→List Slt
 |x::r=>if x.1=id∧x.2.1=field then r else x::r
 |[]=>[]
def pj (s:Sta)(id field:Int)(l:List Alt):Sta:=(before s id field++(if l.isEmpty then[]else[(id,field,l,())])++Y0 id field (nC s id field),())
def aem (s:Sta)(id field:Int)(_:List Alt):Bool:=ca s id field
open Go Tryz
def E0:TabL:={
 ty:=[(3,tInt),(4,.bool),(9,.str),(36,(.slice aa)),(42,aN),(44,aa),(87,aO),(94,(.slice ag)),(96,ah),(144,(.slice eL)),(146,ag),(168,eL)],
 cells:=[(3,1),(4,1),(9,1),(36,1),(42,4),(44,6),(87,1),(94,1),(96,1),(144,1),(146,3),(168,5)],
 offs:=[((42,0),0),((42,1),1),((42,2),2),((42,3),3),((44,0),0),((44,1),1),((44,2),2),((87,0),0),((96,0),0),((146,0),0),((146,1),1),((146,2),2),((168,0),0),((168,1),1)],
 one:=[],
 elem:=[(36,44),(94,146),(144,168)] }
def rB:TabOk prog E0.tab:=TabL.ok Φ
def pp (x:Int):Bool:=(!decide (x=x))
def Ef:List (Nat×Ent):=[]
def afu:Par:=⟨E0.tab,az Ef,λ_=>look [],λ_=>look []⟩
def aft:Code:=(f70.body).getD .skip
def VD:Fi:=⟨afu,6,[.tmp 2],aft⟩
def JK (f:Nat)(x:Int):Option AV:=mn fi0 hs0 0 VD [.bool] f [.val tInt x]
def abC (f:Nat)(x:Int):JK f x=some (.val .bool (!x=x)):=Φ
def abB:bA prog Ef→FiOk prog 70 (VD):=λh=>⟨⟨f70,func70,rfl,Φ,Φ,Φ⟩,rB,af h⟩
def Ee:Ent:=sp1 tInt (λ_=>true) λf=>.val .bool (pp f)
def Yz (l:bA prog Ef)(h:∀(f:Int),∃g,JK g f=some (.val .bool (pp f))):ak prog 70 Ee:=tQ λf _=>(let ⟨_,j⟩:=h f;bj follows (λ_ _ h=>by cases h) eA (abB l) (ds:=[⟨_,f⟩]) j)
def YA (f:bA prog Ef):ak prog 70 Ee:=Yz f (λx=>⟨0,by rw[abC];first|rfl|(simp only[kA];rfl)⟩)
def Q3 (x:Int)(y:Int):Int:=cond (pp x) (cond (pp y) (0:Int) (-1:Int)) (cond (pp y) (1:Int) (cond (x<y) (-1:Int) (cond (x>y) (1:Int) (0:Int))))
def MQ:List (Nat×Ent):=[(70,Ee)]
def aiG:Par:=⟨E0.tab,az MQ,λ_=>look [],λ_=>look []⟩
def aiF:Code:=(f41.body).getD .skip
def acX:Fi:=⟨aiG,20,[.tmp 4],aiF⟩
def Q2 (f:Nat)(x:Int)(y:Int):Option AV:=mn fi0 hs0 0 acX [tInt] f [.val tInt x,.val tInt y]
def agb (f:Nat)(x:Int)(y:Int):Q2 f x y=cond (pp x) (cond (pp y) (some (.val tInt (0:Int))) (some (.val tInt (-1:Int)))) (cond (pp y) (some (.val tInt (1:Int))) (cond (x<y) (some (.val tInt (-1:Int))) (cond (x>y) (some (.val tInt (1:Int))) (some (.val tInt (0:Int)))))):=Φ
def aga:bA prog MQ→FiOk prog 41 (acX):=λh=>⟨⟨f41,func41,rfl,Φ,Φ,Φ⟩,rB,af h⟩
def MP:Ent:=sp2 tInt tInt (λ_ _=>true) λg f=>.val tInt (Q3 g f)
def acV (p:bA prog MQ)(h:∀(g:Int) (f:Int),∃j,Q2 j g f=some (.val tInt (Q3 g f))):ak prog 41 MP:=K6 λg f _=>(let ⟨_,l⟩:=h g f;bj follows (λ_ _ h=>by cases h) eA (aga p) (ds:=[⟨_,g⟩,⟨_,f⟩]) l)
def acW (f:bA prog MQ):ak prog 41 MP:=acV f (λx y=>⟨0,by rw[agb];first|rfl|(simp only[kA];rfl)⟩)
def vf (id:Int)(field:Int)(g:Int)(f:Int):Bool:=cond (id<g) true (cond (id=g) (decide (field<f)) false)
def Er:List (Nat×Ent):=[]
def agH:Par:=⟨E0.tab,az Er,λ_=>look [],λ_=>look []⟩
def agG:Code:=(f145.body).getD .skip
def Wu:Fi:=⟨agH,22,[.tmp 8],agG⟩
def CE (g:Nat)(id:Int)(field:Int)(j:Int)(f:Int):Option AV:=mn fi0 hs0 0 Wu [.bool] g [.val tInt id,.val tInt field,.val tInt j,.val tInt f]
def Zr (j:Nat)(id:Int)(field:Int)(f:Int)(g:Int):CE j id field f g=cond (aL (!id<f) (!id<f)&&(aL (!id<f) (!id<f)&&true)&&true) (cond (aL (!id<f) (!id<f)&&true&&true) (cond (aL (!id<f&&id=f) (!id<f&&id=f)&&(aL (!id<f&&id=f) (!id<f&&id=f)&&true)&&true) (cond (aL (!id<f) (!id<f)&&aL (!id<f) (aL (!id<f&&id=f) (!id<f&&id=f)&&true)) (cond (aL (!id<f) (!id<f)) (some (.val .bool (cond (id<f) true (cond (id=f) (decide (field<g)) false)))) none) none) none) none) none:=Φ
def adT (j:Nat)(id:Int)(field:Int)(g:Int)(f:Int):CE j id field g f=some (.val .bool (cond (id<g) true (cond (id=g) (decide (field<f)) false))):=by simpa only[aC,b7,t?,r?,O',H_,A?,q?,f?,s?,Int.reduceLE,Int.reduceEq,Int.reduceLT,b_]using Zr j id field g f
def adS:bA prog Er→FiOk prog 145 (Wu):=λh=>⟨⟨f145,func145,rfl,Φ,Φ,Φ⟩,rB,af h⟩
def xa:Ent:=sp4 tInt tInt tInt tInt (λ_ _ _ _=>true) λl j g f=>.val .bool (vf l j g f)
def Zs (C:bA prog Er)(h:∀(l:Int) (j:Int) (g:Int) (f:Int),∃p,CE p l j g f=some (.val .bool (vf l j g f))):ak prog 145 xa:=aaj λl j g f _=>(let ⟨_,r⟩:=h l j g f;bj follows (λ_ _ h=>by cases h) eA (adS C) (ds:=[⟨_,l⟩,⟨_,j⟩,⟨_,g⟩,⟨_,f⟩]) r)
def Zt (j:bA prog Er):ak prog 145 xa:=Zs j (λid field g f=>⟨0,by rw[adT];first|rfl|(simp only[kA];rfl)⟩)
def mB:MS:=⟨3,[(0,[.dat (.slice ag)]),(1,[.own aa 44]),(2,[.own aa 44])],[(1,.keep),(2,.keep),(3,.keep),(4,.dat tInt)]⟩
def Gy:List (Nat×Ent):=[]
def mC:Par:=⟨E0.tab,az Gy,λ_=>look [(4,mB)],λ_=>look [(3,mB)]⟩
def Am:Code:=(f94.body).getD .skip
def Ps:Fi:=⟨mC,41,[.cell 2 87],Am⟩
def JB:Code:=sub Am [1,1,0,1,0,0]
def Ca:Code:=sub Am [1,1,1]
def Ya:Code:=sub Am [1,1,0,1,0,0,1,1]
def Gz:KT:=bq E0.tab [.cell 2 87] [aO]
def wy (f:Nat)(n:Nat)(s:ah.den)(i:Int)(g:(List aa.den)):Option AV:=aE 0 mB (λj k=>exec (bp fi0 hs0 f 0) mC 0 f JB j k) (ai 0 (aQ 0 none (λj k=>exec (bp fi0 hs0 f 0) mC 0 f Ca j k) Gz)) n ⟨mkE 41 [(1,.box 0 0),(2,.box 1 0),(3,.box 2 0),(4,.val tInt i)],mkH 5 [(0,.box [.val (.slice ag) s.1]),(1,.box [.own 3 0 aa []]),(2,.box [.own 4 0 aa g]),(3,.row aa 44 0),(4,.row aa 44 0)]⟩
def B9 (f l:Nat)(i:Int)(s:ah.den)(j:(List aa.den)):Option AV:=exec (bp fi0 hs0 f 0) mC 0 f Ya ⟨mkE 41 [(1,.box 0 0),(2,.box 1 0),(3,.box 2 0),(4,.val tInt i)],mkH 5 [(0,.box [.val (.slice ag) s.1]),(1,.box [.own 3 0 aa []]),(2,.box [.own 4 0 aa j]),(3,.row aa 44 0),(4,.row aa 44 0)]⟩ (JJ 0 mB (aE 0 mB (λg k=>exec (bp fi0 hs0 f 0) mC 0 f JB g k) (ai 0 (aQ 0 none (λg k=>exec (bp fi0 hs0 f 0) mC 0 f Ca g k) Gz)) l) (ai 0 (aQ 0 none (λg k=>exec (bp fi0 hs0 f 0) mC 0 f Ca g k) Gz)))
def yt (f:Nat)(s:ah.den):Option AV:=mn fi0 hs0 0 Ps [aO] f [.val ah s]
def Ak (g j:Nat)(s:ah.den)(i:Int)(f:(List aa.den)):wy g (j+1) s i f=cond (i<(s.1.length:Int)) (cond (0≤i&&i<(s.1.length:Int)) (cond (0≤(0:Int)&&0<((ix ag s.1 i).2.2.1.length:Int)) (cond (!eqD aN (ix eL (ix ag s.1 i).2.2.1 0).2.1 (0,false,[],0,())) (cond (0≤(0:Int)&&0<((ix ag s.1 i).2.2.1.length:Int)) (cond (List.length f+List.length ([((ix ag s.1 i).1,(ix ag s.1 i).2.1,(ix eL (ix ag s.1 i).2.2.1 0).2.1,())]:List aa.den)≤LIM) (B9 g j i s (f++[((ix ag s.1 i).1,(ix ag s.1 i).2.1,(ix eL (ix ag s.1 i).2.2.1 0).2.1,())])) none) none) (B9 g j i s f)) none) none) (some (.val aO (f,()))):=Φ
def Al (f j:Nat)(i:Int)(s:ah.den)(g:(List aa.den)):B9 f j i s g=(wy f j s (w64 (i+1)) g):=Φ
def X9 (f:Nat)(s:ah.den):yt f s=(wy f f s 0 []):=Φ
def X8:bA prog Gy→FiOk prog 94 (Ps):=λh=>⟨⟨f94,func94,rfl,Φ,Φ,Φ⟩,rB,af h⟩
def Gw:Ent:=sp1 ah (λf=>stG f) λf=>.val aO (eX f)
def Te (p:bA prog Gy)(h:∀(f:ah.den),stG f=true→∃g,yt g f=some (.val aO (eX f))):ak prog 94 Gw:=tQ λf j=>(let ⟨_,l⟩:=h f j;bj follows (λ_ _ h=>by cases h) eA (X8 p) (ds:=[⟨_,f⟩]) l)
def FV:MS:=⟨1,[(0,[.dat (.slice ag)])],[(1,.dat tInt),(2,.dat tInt),(3,.keep),(7,.dat tInt),(8,.dat tInt)]⟩
def FX:List (Nat×Ent):=[(145,xa)]
def FY:Par:=⟨E0.tab,az FX,λ_=>look [],λ_=>look [(2,FV)]⟩
def FW:Code:=(f182.body).getD .skip
def O2:Fi:=⟨FY,39,[.tmp 6],FW⟩
def XQ:Code:=sub FW [1,1,0,0,0]
def XP:Code:=sub FW [1,1,1]
def aaR:KT:=bq E0.tab [.tmp 6] [tInt]
def gP (f:Nat)(n:Nat)(id:Int)(field:Int)(s:ah.den)(j:Int)(l:Int):Option AV:=aE 0 FV (λg k=>exec (bp fi0 hs0 f 0) FY 0 f XQ g k) (ai 0 (aQ 0 none (λg k=>exec (bp fi0 hs0 f 0) FY 0 f XP g k) aaR)) n ⟨mkE 39 [(1,.val tInt id),(2,.val tInt field),(3,.box 0 0),(7,.val tInt j),(8,.val tInt l)],mkH 1 [(0,.box [.val (.slice ag) s.1])]⟩
def ym (f:Nat)(s:ah.den)(id:Int)(field:Int):Option AV:=mn fi0 hs0 0 O2 [tInt] f [.val ah s,.val tInt id,.val tInt field]
def If (j l:Nat)(id:Int)(field:Int)(s:ah.den)(f:Int)(g:Int):gP j (l+1) id field s f g=cond (f<g) (cond (!(2:Int)=0) (cond (0≤w64 (Int.tdiv (w64 (f+g)) 2)&&w64 (Int.tdiv (w64 (f+g)) 2)<(s.1.length:Int)) (cond (0≤w64 (Int.tdiv (w64 (f+g)) 2)&&w64 (Int.tdiv (w64 (f+g)) 2)<(s.1.length:Int)) (cond (vf (ix ag s.1 (w64 (Int.tdiv (w64 (f+g)) 2))).1 (ix ag s.1 (w64 (Int.tdiv (w64 (f+g)) 2))).2.1 id field) (gP j l id field s (w64 (w64 (Int.tdiv (w64 (f+g)) 2)+1)) g) (gP j l id field s f (w64 (Int.tdiv (w64 (f+g)) 2)))) none) none) none) (some (.val tInt f)):=Φ
def LL (f l:Nat)(id:Int)(field:Int)(s:ah.den)(g:Int)(j:Int):gP f (l+1) id field s g j=cond (g<j) (cond (0≤w64 (Int.tdiv (w64 (g+j)) 2)&&w64 (Int.tdiv (w64 (g+j)) 2)<(s.1.length:Int)) (cond (0≤w64 (Int.tdiv (w64 (g+j)) 2)&&w64 (Int.tdiv (w64 (g+j)) 2)<(s.1.length:Int)) (cond (vf (ix ag s.1 (w64 (Int.tdiv (w64 (g+j)) 2))).1 (ix ag s.1 (w64 (Int.tdiv (w64 (g+j)) 2))).2.1 id field) (gP f l id field s (w64 (w64 (Int.tdiv (w64 (g+j)) 2)+1)) j) (gP f l id field s g (w64 (Int.tdiv (w64 (g+j)) 2)))) none) none) (some (.val tInt g)):=by simpa only[aC,b7,t?,r?,O',H_,A?,q?,f?,s?,Int.reduceLE,Int.reduceEq,Int.reduceLT,b_]using If f l id field s g j
def XO (f:Nat)(s:ah.den)(id:Int)(field:Int):ym f s id field=(gP f f id field s 0 (s.1.length:Int)):=Φ
def XN:bA prog FX→FiOk prog 182 (O2):=λh=>⟨⟨f182,func182,rfl,Φ,Φ,Φ⟩,rB,af h⟩
def zX:Ent:=sp3 ah tInt tInt (λj g f=>ca j g f) λj g f=>.val tInt (ae j g f)
def SN (C:bA prog FX)(h:∀(j:ah.den) (g:Int) (f:Int),ca j g f=true→∃l,ym l j g f=some (.val tInt (ae j g f))):ak prog 182 zX:=aak λj g f p=>(let ⟨_,r⟩:=h j g f p;bj follows (λ_ _ h=>by cases h) eA (XN C) (ds:=[⟨_,j⟩,⟨_,g⟩,⟨_,f⟩]) r)
def M5:List (Nat×Ent):=[(182,zX)]
def agD:Par:=⟨E0.tab,az M5,λ_=>look [],λ_=>look []⟩
def agC:Code:=(f141.body).getD .skip
def Ws:Fi:=⟨agD,43,[.tmp 6],agC⟩
def w8 (f:Nat)(s:ah.den)(id:Int)(field:Int):Option AV:=mn fi0 hs0 0 Ws [.slice eL] f [.val ah s,.val tInt id,.val tInt field]
def Zo (f:Nat)(s:ah.den)(id:Int)(field:Int):w8 f s id field=cond (ca s id field) (cond (aL (decide (ae s id field<(s.1.length:Int))) (decide (ae s id field<(s.1.length:Int)))&&true&&true) (cond (aL (decide (ae s id field<(s.1.length:Int))) (decide (ae s id field<(s.1.length:Int)))&&(aL (decide (ae s id field<(s.1.length:Int))) (decide (ae s id field<(s.1.length:Int)))&&true)&&aL (decide (ae s id field<(s.1.length:Int))) (0≤ae s id field&&ae s id field<(s.1.length:Int))) (cond (aL (decide (ae s id field<(s.1.length:Int))) (decide (ae s id field<(s.1.length:Int)))&&true&&true) (cond (aL (decide (ae s id field<(s.1.length:Int))) (decide (ae s id field<(s.1.length:Int)))&&true&&true) (cond (aL (decide (ae s id field<(s.1.length:Int))) (decide (ae s id field<(s.1.length:Int)))&&(aL (decide (ae s id field<(s.1.length:Int))) (decide (ae s id field<(s.1.length:Int)))&&true)&&true) (cond (aL (decide (ae s id field<(s.1.length:Int))) (decide (ae s id field<(s.1.length:Int)))&&true) (cond (aL (cond (ae s id field<(s.1.length:Int)) (decide ((ix ag s.1 (ae s id field)).1=id)) false) (cond (ae s id field<(s.1.length:Int)) (decide ((ix ag s.1 (ae s id field)).1=id)) false)&&true&&true) (cond (aL (cond (ae s id field<(s.1.length:Int)) (decide ((ix ag s.1 (ae s id field)).1=id)) false) (cond (ae s id field<(s.1.length:Int)) (decide ((ix ag s.1 (ae s id field)).1=id)) false)&&(aL (cond (ae s id field<(s.1.length:Int)) (decide ((ix ag s.1 (ae s id field)).1=id)) false) (cond (ae s id field<(s.1.length:Int)) (decide ((ix ag s.1 (ae s id field)).1=id)) false)&&true)&&aL (cond (ae s id field<(s.1.length:Int)) (decide ((ix ag s.1 (ae s id field)).1=id)) false) (0≤ae s id field&&ae s id field<(s.1.length:Int))) (cond (aL (cond (ae s id field<(s.1.length:Int)) (decide ((ix ag s.1 (ae s id field)).1=id)) false) (cond (ae s id field<(s.1.length:Int)) (decide ((ix ag s.1 (ae s id field)).1=id)) false)&&true&&true) (cond (aL (cond (ae s id field<(s.1.length:Int)) (decide ((ix ag s.1 (ae s id field)).1=id)) false) (cond (ae s id field<(s.1.length:Int)) (decide ((ix ag s.1 (ae s id field)).1=id)) false)&&true&&true) (cond (aL (cond (ae s id field<(s.1.length:Int)) (decide ((ix ag s.1 (ae s id field)).1=id)) false) (cond (ae s id field<(s.1.length:Int)) (decide ((ix ag s.1 (ae s id field)).1=id)) false)&&(aL (cond (ae s id field<(s.1.length:Int)) (decide ((ix ag s.1 (ae s id field)).1=id)) false) (cond (ae s id field<(s.1.length:Int)) (decide ((ix ag s.1 (ae s id field)).1=id)) false)&&true)&&true) (cond (aL (cond (ae s id field<(s.1.length:Int)) (decide ((ix ag s.1 (ae s id field)).1=id)) false) (cond (ae s id field<(s.1.length:Int)) (decide ((ix ag s.1 (ae s id field)).1=id)) false)&&true) (cond (cond (cond (ae s id field<(s.1.length:Int)) ((ix ag s.1 (ae s id field)).1=id) false) ((ix ag s.1 (ae s id field)).2.1=field) false) (cond (0≤ae s id field&&ae s id field<(s.1.length:Int)) (some (.val (.slice eL) (ix ag s.1 (ae s id field)).2.2.1)) none) (some (.val (.slice eL) []))) none) none) none) none) none) none) none) none) none) none) none) none) none:=Φ
def adI (f:Nat)(s:ah.den)(id:Int)(field:Int):w8 f s id field=cond (ca s id field) (cond (aL (decide (ae s id field<(s.1.length:Int))) (0≤ae s id field&&ae s id field<(s.1.length:Int))) (cond (aL (cond (ae s id field<(s.1.length:Int)) (decide ((ix ag s.1 (ae s id field)).1=id)) false) (0≤ae s id field&&ae s id field<(s.1.length:Int))) (cond (cond (cond (ae s id field<(s.1.length:Int)) ((ix ag s.1 (ae s id field)).1=id) false) ((ix ag s.1 (ae s id field)).2.1=field) false) (cond (0≤ae s id field&&ae s id field<(s.1.length:Int)) (some (.val (.slice eL) (ix ag s.1 (ae s id field)).2.2.1)) none) (some (.val (.slice eL) []))) none) none) none:=by simpa only[aC,b7,t?,r?,O',H_,A?,q?,f?,s?,Int.reduceLE,Int.reduceEq,Int.reduceLT,b_]using Zo f s id field
def adH:bA prog M5→FiOk prog 141 (Ws):=λh=>⟨⟨f141,func141,rfl,Φ,Φ,Φ⟩,rB,af h⟩
def Eq:Ent:=sp3 ah tInt tInt (λj g f=>ca j g f) λj g f=>.val (.slice eL) (iU j g f)
def Zp (C:bA prog M5)(h:∀(j:ah.den) (g:Int) (f:Int),ca j g f=true→∃l,w8 l j g f=some (.val (.slice eL) (iU j g f))):ak prog 141 Eq:=aak λj g f p=>(let ⟨_,r⟩:=h j g f p;bj follows (λ_ _ h=>by cases h) eA (adH C) (ds:=[⟨_,j⟩,⟨_,g⟩,⟨_,f⟩]) r)
def aar:MS:=⟨2,[(0,[.dat (.slice ag)]),(1,[.own ag 146])],[(1,.dat tInt),(2,.dat tInt),(4,.keep),(8,.keep),(9,.dat tInt),(10,.own ag 146)]⟩
def aaq:MS:=⟨2,[(0,[.dat (.slice ag)]),(1,[.own ag 146])],[(4,.keep),(8,.keep),(9,.dat tInt),(10,.own ag 146)]⟩
def Se:List (Nat×Ent):=[(182,zX)]
def Sf:Par:=⟨E0.tab,az Se,λ_=>look [(5,aar),(7,aaq)],λ_=>look []⟩
def Sd:Code:=(f142.body).getD .skip
def aau:Fi:=⟨Sf,65,[.cell 8 96],Sd⟩
def ael:Code:=sub Sd [1,1,1,1]
def aek:Code:=sub Sd [1,1,1,1,1]
def aat:KT:=bq E0.tab [.cell 8 96] [ah]
def zw (f:Nat)(id:Int)(field:Int)(s:ah.den)(out:(List ag.den)):Option AV:=exec (bp fi0 hs0 f 0) Sf 0 f ael ⟨mkE 65 [(1,.val tInt id),(2,.val tInt field),(4,.box 0 0),(8,.box 1 0),(9,.val tInt (ae s id field)),(10,.own 3 0 ag out)],mkH 4 [(0,.box [.val (.slice ag) s.1]),(1,.box [.own 2 0 ag []]),(2,.row ag 146 0),(3,.row ag 146 0)]⟩ aat
def vT (f:Nat)(out:(List ag.den))(s:ah.den)(g:Int):Option AV:=exec (bp fi0 hs0 f 0) Sf 0 f aek ⟨mkE 65 [(4,.box 0 0),(8,.box 1 0),(9,.val tInt g),(10,.own 3 0 ag out)],mkH 4 [(0,.box [.val (.slice ag) s.1]),(1,.box [.own 2 0 ag []]),(2,.row ag 146 0),(3,.row ag 146 0)]⟩ aat
def Fd (f:Nat)(s:ah.den)(id:Int)(field:Int)(l:(List eL.den)):Option AV:=mn fi0 hs0 0 aau [ah] f [.val ah s,.val tInt id,.val tInt field,.val (.slice eL) l]
def Oj (f:Nat)(id:Int)(field:Int)(s:ah.den)(out:(List ag.den)):zw f id field s out=cond (aL (decide (ae s id field<(s.1.length:Int))) (decide (ae s id field<(s.1.length:Int)))&&true&&true) (cond (aL (decide (ae s id field<(s.1.length:Int))) (decide (ae s id field<(s.1.length:Int)))&&(aL (decide (ae s id field<(s.1.length:Int))) (decide (ae s id field<(s.1.length:Int)))&&true)&&aL (decide (ae s id field<(s.1.length:Int))) (0≤ae s id field&&ae s id field<(s.1.length:Int))) (cond (aL (decide (ae s id field<(s.1.length:Int))) (decide (ae s id field<(s.1.length:Int)))&&true&&true) (cond (aL (decide (ae s id field<(s.1.length:Int))) (decide (ae s id field<(s.1.length:Int)))&&true&&true) (cond (aL (decide (ae s id field<(s.1.length:Int))) (decide (ae s id field<(s.1.length:Int)))&&(aL (decide (ae s id field<(s.1.length:Int))) (decide (ae s id field<(s.1.length:Int)))&&true)&&true) (cond (aL (decide (ae s id field<(s.1.length:Int))) (decide (ae s id field<(s.1.length:Int)))&&true) (cond (aL (cond (ae s id field<(s.1.length:Int)) (decide ((ix ag s.1 (ae s id field)).1=id)) false) (cond (ae s id field<(s.1.length:Int)) (decide ((ix ag s.1 (ae s id field)).1=id)) false)&&true&&true) (cond (aL (cond (ae s id field<(s.1.length:Int)) (decide ((ix ag s.1 (ae s id field)).1=id)) false) (cond (ae s id field<(s.1.length:Int)) (decide ((ix ag s.1 (ae s id field)).1=id)) false)&&(aL (cond (ae s id field<(s.1.length:Int)) (decide ((ix ag s.1 (ae s id field)).1=id)) false) (cond (ae s id field<(s.1.length:Int)) (decide ((ix ag s.1 (ae s id field)).1=id)) false)&&true)&&aL (cond (ae s id field<(s.1.length:Int)) (decide ((ix ag s.1 (ae s id field)).1=id)) false) (0≤ae s id field&&ae s id field<(s.1.length:Int))) (cond (aL (cond (ae s id field<(s.1.length:Int)) (decide ((ix ag s.1 (ae s id field)).1=id)) false) (cond (ae s id field<(s.1.length:Int)) (decide ((ix ag s.1 (ae s id field)).1=id)) false)&&true&&true) (cond (aL (cond (ae s id field<(s.1.length:Int)) (decide ((ix ag s.1 (ae s id field)).1=id)) false) (cond (ae s id field<(s.1.length:Int)) (decide ((ix ag s.1 (ae s id field)).1=id)) false)&&true&&true) (cond (aL (cond (ae s id field<(s.1.length:Int)) (decide ((ix ag s.1 (ae s id field)).1=id)) false) (cond (ae s id field<(s.1.length:Int)) (decide ((ix ag s.1 (ae s id field)).1=id)) false)&&(aL (cond (ae s id field<(s.1.length:Int)) (decide ((ix ag s.1 (ae s id field)).1=id)) false) (cond (ae s id field<(s.1.length:Int)) (decide ((ix ag s.1 (ae s id field)).1=id)) false)&&true)&&true) (cond (aL (cond (ae s id field<(s.1.length:Int)) (decide ((ix ag s.1 (ae s id field)).1=id)) false) (cond (ae s id field<(s.1.length:Int)) (decide ((ix ag s.1 (ae s id field)).1=id)) false)&&true) (cond (cond (cond (ae s id field<(s.1.length:Int)) ((ix ag s.1 (ae s id field)).1=id) false) ((ix ag s.1 (ae s id field)).2.1=field) false) (vT f out s (w64 (ae s id field+1))) (vT f out s (ae s id field))) none) none) none) none) none) none) none) none) none) none) none) none:=Φ
def R9 (f:Nat)(id:Int)(field:Int)(s:ah.den)(out:(List ag.den)):zw f id field s out=cond (aL (decide (ae s id field<(s.1.length:Int))) (0≤ae s id field&&ae s id field<(s.1.length:Int))) (cond (aL (cond (ae s id field<(s.1.length:Int)) (decide ((ix ag s.1 (ae s id field)).1=id)) false) (0≤ae s id field&&ae s id field<(s.1.length:Int))) (cond (cond (cond (ae s id field<(s.1.length:Int)) ((ix ag s.1 (ae s id field)).1=id) false) ((ix ag s.1 (ae s id field)).2.1=field) false) (vT f out s (w64 (ae s id field+1))) (vT f out s (ae s id field))) none) none:=by simpa only[aC,b7,t?,r?,O',H_,A?,q?,f?,s?,Int.reduceLE,Int.reduceEq,Int.reduceLT,b_]using Oj f id field s out
def R8 (g:Nat)(out:(List ag.den))(s:ah.den)(f:Int):vT g out s f=cond (0≤f&&f≤(s.1.length:Int)) (cond (List.length out+List.length ((List.take (List.length s.1) s.1).drop (Int.toNat f))≤LIM) (some (.val ah (out++(List.take (List.length s.1) s.1).drop (Int.toNat f),()))) none) none:=Φ
def aej (f:Nat)(s:ah.den)(id:Int)(field:Int)(l:(List eL.den)):Fd f s id field l=cond (ca s id field) (cond (0≤ae s id field&&ae s id field≤(s.1.length:Int)) (cond (List.length ([]:List ag.den)+List.length ((List.take (Int.toNat (ae s id field)) s.1).drop 0)≤LIM) (cond ((l.length:Int)>0) (cond (List.length ([]++(List.take (Int.toNat (ae s id field)) s.1).drop 0)+List.length ([(id,field,l,())]:List ag.den)≤LIM) (zw f id field s ([]++(List.take (Int.toNat (ae s id field)) s.1).drop 0++[(id,field,l,())])) none) (zw f id field s ([]++(List.take (Int.toNat (ae s id field)) s.1).drop 0))) none) none) none:=Φ
def aei:bA prog Se→FiOk prog 142 (aau):=λh=>⟨⟨f142,func142,rfl,Φ,Φ,Φ⟩,rB,af h⟩
def Sa:Ent:=sp4 ah tInt tInt (.slice eL) (λl j g f=>aem l j g f) λl j g f=>.val ah (pj l j g f)
def aas (J:bA prog Se)(h:∀(l:ah.den) (j:Int) (g:Int) (f:(List eL.den)),aem l j g f=true→∃p,Fd p l j g f=some (.val ah (pj l j g f))):ak prog 142 Sa:=aaj λl j g f r=>(let ⟨_,C⟩:=h l j g f r;bj follows (λ_ _ h=>by cases h) eA (aei J) (ds:=[⟨_,l⟩,⟨_,j⟩,⟨_,g⟩,⟨_,f⟩]) C)
def rm {n:Int}(g : -9223372036854775808≤n)(f:n<9223372036854775808):w64 n=n:=by unfold w64;simp[IntKind.wrap,IntKind.bits,IntKind.signed];omega
def adZ {n:Nat}(h:n<9223372036854775808):w64 (n:Int)=n:=rm Ω Ω
variable{t:Ty}{p:Prop}{s:Sta}
def cg (p:List t.den)(c:t.den)(r:List t.den):ix t (p++c::r) (p.length:Int)=c:=by simp[ix]
def L8 (p:List t.den)(c:t.den)(r:List t.den):decide ((p.length:Int)<((p++c::r).length:Int))=true:=by simp;omega
def To (p:List t.den):decide ((p.length:Int)<((p++[]).length:Int))=false:=by simp
def aba (p:List t.den):decide (0≤(p.length:Int))=true:=by simp
def S6 (p:List t.den)(c:t.den)(h:p.length<9223372036854775807):w64 ((p.length:Int)+1)=((p++[c]).length:Int):=by rw[rm Ω Ω];simp
def aiY (p:List t.den)(c:t.den)(r:List t.den):p++c::r=(p++[c])++r:=by simp
def afC (a b:Bool):aL a b=(!a||b):=by cases a <;> cases b <;> rfl
def dt [Decidable p](h:p):decide p=true:=b? h
def df [Decidable p](h:¬p):decide p=false:=alc h
def YB (x:Int):pp x=false:=by simp[pp]
def acY (x y:Int):Q3 x y=afE x y:=by simp[Q3,YB,afE];by_cases h:x<y <;> by_cases f:y<x <;> simp[h,f]
def xd (i f i2 g:Int):vf i f i2 g=ahd i f i2 g:=by unfold vf ahd;by_cases p:i<i2 <;> by_cases l:i=i2 <;> by_cases j:f<g <;> simp[p,l,j]
def Hm:∀(t:Ty) (x:t.den),t.flatEq=true→eqD t x x=true
 |.int _,x,_=>by simp[eqD]
 |.bool,x,_=>by simp[eqD]
 |.str,x,_=>by simp[eqD]
 |.unit,_,_=>rfl
 |.cons a b,x,h=>by simp[Ty.flatEq]at h;simp[eqD,Hm a x.1 h.1.1,Hm b x.2 h.1.2]
 |.slice _,_,h=>by simp[Ty.flatEq]at h
 |.tree,_,h=>by simp[Ty.flatEq]at h
def Mz:∀(t:Ty) (x y:t.den),eqD t x y=true→x=y
 |.int _,x,y,h=>by simpa[eqD]using h
 |.bool,x,y,h=>by simpa[eqD]using h
 |.str,x,y,h=>by simpa[eqD]using h
 |.unit,_,_,_=>rfl
 |.cons a b,x,y,h=>by simp[eqD]at h;exact Prod.ext (Mz a _ _ h.1) (Mz b _ _ h.2)
 |.slice _,_,_,h=>by simp[eqD]at h
 |.tree,_,_,h=>by simp[eqD]at h
def afp (c:t.den)(r:List t.den):ix t (c::r) 0=c:=rfl
def Td (x:Slt)(r:List Slt):(eX (x::r,())).1=(bif !eqD aN (uQ x) zv then[(x.1,x.2.1,uQ x,())]else[])++(eX (r,())).1:=by simp[eX,S?];cases eqD aN (uQ x) zv <;> simp
def Xh (h:stG s=true):s.1.length≤1048576∧∀x∈s.1,x.2.2.1≠[]∧x.2.2.1.length≤1048576:=by simp only[stG,η,Δ,X']at h;refine⟨h.1,λx f=>?_⟩;have:=h.2 x f;simp[afg]at this;exact⟨λe=>by rw[e]at this;simp at this,this.2⟩
def Pq (C:Nat)(u:Unit):∀(n:Nat) (r p:List Slt) (f:List Cel),r.length<n→(p++r).length≤1048576→(∀x∈r,x.2.2.1≠[])→f.length≤p.length →
  wy C n (p++r,u) (p.length:Int) f=some (.val aO (f++(eX (r,())).1,())):=by
 intro n;induction n with
 |zero=>intro r p f h;omega
 |succ n T=>
  intro r p f h hl j ha;cases r with
  |nil=>rw[Ak];dsimp only;rw[To (t:=ag)];simp[eX]
  |cons c r=>
   obtain⟨ci,R,J,P⟩:=c;cases J with
   |nil=>exact absurd rfl (j _ (S' ..))
   |cons a J=>
    have hl':p.length+(r.length+1)≤1048576:=by simpa using hl
    have next:=λg (h':g.length≤p.length+1)=>T r (p++[(ci,R,a::J,P)]) g (by simp at h;omega) Ξ (λx U=>j x (K' _ U)) (by simpa using h')
    rw[←aiY (t:=ag),←S6 (t:=ag) p (ci,R,a::J,P) Ω]at next
    rw[Ak];dsimp only;rw[cg (t:=ag),L8 (t:=ag),aba (t:=ag),Al,Al,next _ Ξ,next _ Ω];dsimp only;rw[afp (t:=eL),Td];have l:f.length+1≤LIM:=by simp[LIM];omega
    have hq:decide ((0:Int)<((a::J).length:Int))=true:=dt Ψ;rw[hq];simp[uQ,zv];cases eqD aN a.2.1 (0,false,[],0,()) <;> simp[l]
def L6 (s:Sta)(h:stG s=true):∃f,yt f s=some (.val aO (eX s)):=by obtain⟨p,j⟩:=Xh h;obtain⟨l,u⟩:=s;refine⟨l.length+1, ?_⟩;rw[X9];exact Pq _ u (l.length+1) l [] [] Ω p (λx g=>(j x g).1) Ψ
def lj {i f j g:Int}:ahd i f j g=true↔i<j∨(i=j∧f<g):=by simp[ahd]
def ai1 {i f j g:Int}:ahd i f j g=false ↔ ¬(i<j∨(i=j∧f<g)):=by rw[←lj];simp
def lL {i f j g k h:Int}(p:ahd i f j g=true)(l:ahd j g k h=true):ahd i f k h=true:=by rw[lj]at *;omega
def Wv {i f j g:Int}(h:ahd i f j g=false)(l:¬(i=j∧f=g)):ahd j g i f=true:=by rw[ai1]at h;rw[lj];omega
def aaQ {L:List Slt}(J:L.Pairwise kC)(id field:Int):∀m,m<L.length→ahd (L.getD m (zero ag)).1 (L.getD m (zero ag)).2.1 id field=decide (m<(L.takeWhile (λx=>ahd x.1 x.2.1 id field)).length):=by
 induction L with
 |nil=>intro m j;simp at j
 |cons x L r=>
  obtain⟨R,P⟩:=m_.1 J;intro m j;rw[List.takeWhile_cons];cases l:ahd x.1 x.2.1 id field with
  |true=>
   cases m with
   |zero=>simp[List.getD,l]
   |succ m =>have:=r P m (by simpa using j);simpa[List.getD]using this
  |false=>
   cases m with
   |zero=>simp[List.getD,l]
   |succ m=>
    have g:m<L.length:=by simpa using j
    have f:L.getD m (zero ag)∈L:=by simp only[List.getD,ε g,Q?];exact a_ g
    have p:=R _ f;have e:(x::L).getD (m+1) (zero ag)=L.getD m (zero ag):=by simp[List.getD]
    rw[e];cases C:ahd (L.getD m (zero ag)).1 (L.getD m (zero ag)).2.1 id field with
    |false=>simp
    |true =>have:=lL p C;rw[l]at this;cases this
def SM (j:Nat)(id field:Int)(L:List Slt)(u:Unit)(hl:L.length≤1048576)(r:L.Pairwise kC):∀(n f g:Nat),g-f<n→f≤(L.takeWhile (λx=>ahd x.1 x.2.1 id field)).length→(L.takeWhile (λx=>ahd x.1 x.2.1 id field)).length≤g→g≤L.length →
  gP j n id field (L,u) (f:Int) (g:Int)=some (.val tInt ((L.takeWhile (λx=>ahd x.1 x.2.1 id field)).length:Int)):=by
 intro n;induction n with
 |zero=>intro f g h;omega
 |succ n l=>
  intro f g h U T R;rw[LL];dsimp only;by_cases P:f<g
  ·have e1:w64 ((f:Int)+(g:Int))=((f+g:Nat):Int):=by rw[rm Ω Ω];simp
   have e2:Int.tdiv ((f+g:Nat):Int) 2=(((f+g)/2:Nat):Int):=rfl;have e3:w64 (((f+g)/2:Nat):Int)=(((f+g)/2:Nat):Int):=adZ Ω;rw[e1,e2,e3];generalize hm:(f+g)/2=m;have J:f≤m:=Ω
   have C:m<g:=Ω
   have e4:w64 ((m:Int)+1)=((m+1:Nat):Int):=by rw[rm Ω Ω];simp
   have e5:ix ag L (m:Int)=L.getD m (zero ag):=by simp[ix]
   rw[e4,e5,xd,aaQ r id field m Ω];have c1:decide ((f:Int)<(g:Int))=true:=dt Ω;have c2:decide ((0:Int)≤(m:Int))=true:=dt Ω;have c3:decide ((m:Int)<(L.length:Int))=true:=dt Ω;rw[c1,c2,c3];simp;by_cases p:m<(L.takeWhile (λx=>ahd x.1 x.2.1 id field)).length
   ·rw[dt p,O'];exact l (m+1) g Ω Ω T R
   ·rw[df p,H_];exact l f m Ω U Ω Ω
  ·have c1:decide ((f:Int)<(g:Int))=false:=df Ω;have e:(L.takeWhile (λx=>ahd x.1 x.2.1 id field)).length=f:=Ω
   rw[c1,H_,e]
def zY {id field:Int}(h:ca s id field=true):s.1.length≤1048576∧s.1.Pairwise kC:=by simpa[ca,agB]using h
def LK (s:Sta)(id field:Int)(h:ca s id field=true):∃f,ym f s id field=some (.val tInt (ae s id field)):=by obtain⟨j,g⟩:=zY h;obtain⟨l,u⟩:=s;refine⟨l.length+1, ?_⟩;rw[XO];exact SM _ id field l u j g (l.length+1) 0 l.length Ω (k_ _) (List.takeWhile_sublist _).length_le (ζ _)
def DN (s:Sta)(id field:Int):s.1=before s id field++nC s id field:=(List.takeWhile_append_dropWhile).symm
def Rk (s:Sta)(id field:Int)(h:ca s id field=true):∃f,w8 f s id field=some (.val (.slice eL) (iU s id field)):=by
 refine⟨0, ?_⟩;rw[adI,h];have g:=DN s id field;unfold iU ae;generalize before s id field=p at *;cases j:nC s id field with
 |nil =>rw[j]at g;rw[g];have c:decide ((p.length:Int)<((p++[]).length:Int))=false:=df Ψ;rw[c];simp[Hj]
 |cons x r =>rw[j]at g;rw[g,cg (t:=ag),L8 (t:=ag),aba (t:=ag)];simp[b7];by_cases C:x.1=id <;> by_cases l:x.2.1=field <;> simp[C,l]
def acA (p:List t.den)(c:t.den)(r:List t.den):List.drop (p.length+1) (p++c::r)=r:=by rw[←List.drop_drop];simp
def R7 (s:Sta)(id field:Int)(l:List Alt)(h:aem s id field l=true):∃g,Fd g s id field l=some (.val ah (pj s id field l)):=by
 refine⟨0, ?_⟩;have hG:ca s id field=true:=h;obtain⟨h1,_⟩:=zY hG;have f:=DN s id field;unfold pj;have C:∀(out:List Slt) (k:Nat),out.length≤2097152→k≤s.1.length→vT 0 out s (k:Int)=some (.val ah (out++s.1.drop k,())):=by intro out k j p;rw[R8];have c1:decide ((0:Int)≤(k:Int))=true:=dt Ω;have c2:decide ((k:Int)≤(s.1.length:Int))=true:=dt Ω;have P:decide (out.length+((List.take s.1.length s.1).drop (Int.toNat (k:Int))).length≤LIM)=true:=dt (by simp[LIM];omega);rw[c1,c2,P];simp
 have R:∀out:List Slt,out.length≤2097152→zw 0 id field s out=some (.val ah (out++Y0 id field (nC s id field),())):=by
  intro out j;have p:(before s id field).length≤s.1.length:=by rw[f];simp
  rw[R9];unfold ae;cases T:nC s id field with
  |nil=>
   rw[T]at f;have c:decide (((before s id field).length:Int)<(s.1.length:Int))=false:=df (by rw[f];simp);rw[c,C out _ j p];have hd:s.1.drop (before s id field).length=[]:=by rw[f];simp
   rw[hd];simp[Hj,Y0]
  |cons x r=>
   rw[T]at f;have J:(before s id field).length+1≤s.1.length:=by rw[f];simp
   have e1:ix ag s.1 ((before s id field).length:Int)=x:=by rw[f];exact cg (t:=ag) _ _ _
   have c1:decide (((before s id field).length:Int)<(s.1.length:Int))=true:=dt Ω;have c2:decide ((0:Int)≤((before s id field).length:Int))=true:=dt Ω;have e2:w64 (((before s id field).length:Int)+1)=(((before s id field).length+1:Nat):Int):=by rw[rm Ω Ω];simp
   have d1:s.1.drop (before s id field).length=x::r:=by rw[f];simp
   have d2:s.1.drop ((before s id field).length+1)=r:=by rw[f];exact acA (t:=ag) _ _ _
   rw[e1,c1,c2,e2,C out _ j p,C out _ j J,d1,d2];simp[b7];by_cases g1:x.1=id <;> by_cases g2:x.2.1=field <;> simp[g1,g2,Y0]
 rw[aej,hG];unfold ae;have p:(before s id field).length≤s.1.length:=by rw[f];simp
 have U:(List.take (Int.toNat ((before s id field).length:Int)) s.1).drop 0=before s id field:=by simp;rw[f];simp
 have c1:decide ((0:Int)≤((before s id field).length:Int))=true:=dt Ω;have c2:decide (((before s id field).length:Int)≤(s.1.length:Int))=true:=dt Ω;have P:decide (([]:List Slt).length+(before s id field).length≤LIM)=true:=dt (by simp[LIM];omega);have c4:decide ((([]:List Slt)++before s id field).length+([(id,field,l,())]:List Slt).length≤LIM)=true:=dt (by simp[LIM];omega);rw[U,c1,c2,P,c4,R _ Ξ,R _ Ξ];cases l with
 |nil=>simp
 |cons a l =>have c5:decide (((a::l).length:Int)>0)=true:=dt Ψ;rw[c5];simp
def xu {f:Type}(p:f→Bool):∀(l:List f),∀x∈l.takeWhile p,p x=true
 |[],x,h=>by simp at h
 |y::l,x,h=>by
  rw[List.takeWhile_cons]at h;split at h
  next hy=>
   obtain rfl|h:=J'.1 h
   ·exact hy
   ·exact xu p l x h
  ·simp at h
def uU {f:Type}(p:f→Bool):∀(l:List f) (x:f) (r:List f),l.dropWhile p=x::r→p x=false
 |[],x,r,h=>by simp at h
 |y::l,x,r,h=>by
  rw[List.dropWhile_cons]at h;split at h
  ·exact uU p l x r h
  next hy=>injection h with h1 h2;subst h1;simpa using hy
def X7 (s:Sta):(eX s).1.length≤s.1.length:=by simp only[eX,e_];exact F_ _ _
def afs:ak prog 70 Ee:=YA trivial
def aiE:ak prog 41 MP:=acW ⟨afs,apj⟩
def M8:ak prog 145 xa:=Zt trivial
def abg:ak prog 94 Gw:=Te trivial  L6
def O1:ak prog 182 zX:=SN ⟨M8,apj⟩  LK
def M4:ak prog 141 Eq:=Zp ⟨O1,apj⟩  Rk
def ahx:ak prog 142 Sa:=aas ⟨O1,apj⟩  R7
