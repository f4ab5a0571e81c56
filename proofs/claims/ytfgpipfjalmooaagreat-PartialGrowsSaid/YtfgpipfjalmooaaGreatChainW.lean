/- Every function's contract. -/
import Derived.Test.YtfgpipfjalmooaaGreatGenG
set_option linter.all false
noncomputable section
namespace Go.Proofs.YtfgpipfjalmooaaGreat
namespace Abs
abbrev eL:Ty:=(.cons tInt (.cons aO .unit))
abbrev ag:Ty:=.cons tInt (.cons tInt (.cons (.slice eL) .unit))
abbrev ah:Ty:=(.cons (.slice ag) .unit)
abbrev Val:=aO.den
abbrev Alt:=eL.den
abbrev Slt:=ag.den
abbrev Sta:=ah.den
abbrev Cel:=aa.den
abbrev Mdl:=aP.den
def adI (x y:Int):Int:=if x<y then -1 else if y<x then 1 else 0
def zv:Val:=(0,false,[],0,())
def ahd (i f i2 g:Int):Bool:=i<i2||i=i2&&f<g
def adl (l:List Alt):Bool:=decide (l.length≤1048576)
def stG (s:Sta):Bool:=s.1.length≤1048576&&s.1.all λx=>!x.2.2.1.isEmpty&&adl x.2.2.1
def tM (x:Slt):Val:=match x.2.2.1 with|a::_=>a.2.1|[]=>zv
def eX (s:Sta):Mdl:=((s.1.filter λx=>!eqD aO (tM x) zv).map λx=>(x.1,x.2.1,tM x,()),())
def jO (a b:Slt):Prop:=ahd a.1 a.2.1 b.1 b.2.1=true
instance slotDec (a b:Slt):Decidable (jO a b):=inferInstanceAs (Decidable (_=true))
def aeG (l:List Slt):Bool:=decide (l.Pairwise jO)
def cj (s:Sta)(_ _:Int):Bool:=s.1.length≤1048576&&aeG s.1
def before (s:Sta)(id field:Int):List Slt:=s.1.takeWhile λx=>ahd x.1 x.2.1 id field
def mG (s:Sta)(id field:Int):List Slt:=s.1.dropWhile λx=>ahd x.1 x.2.1 id field
def ae (s:Sta)(id field:Int):Int:=((before s id field).length:Int)
def iy (s:Sta)(id field:Int):List Alt:=match mG s id field with
 |x::_=>if x.1=id∧x.2.1=field then x.2.2.1 else[]
 |[]=>[]
def WF (id field:Int):List Slt→List Slt
 |x::r=>if x.1=id∧x.2.1=field then r else x::r
 |[]=>[]
def ot (s:Sta)(id field:Int)(l:List Alt):Sta:=(before s id field++(if l.isEmpty then[]else[(id,field,l,())])++WF id field (mG s id field),())
def acj (s:Sta)(id field:Int)(_:List Alt):Bool:=cj s id field
open Go Tryz
def DB:TabL:={
 ty:=[(3,tInt),(4,.bool),(9,.str),(36,(.slice aa)),(42,aO),(44,aa),(87,aP),(94,(.slice ag)),(96,ah),(144,(.slice eL)),(146,ag),(168,eL)],
 cells:=[(3,1),(4,1),(9,1),(36,1),(42,4),(44,6),(87,1),(94,1),(96,1),(144,1),(146,3),(168,5)],
 offs:=[((42,0),0),((42,1),1),((42,2),2),((42,3),3),((44,0),0),((44,1),1),((44,2),2),((87,0),0),((96,0),0),((146,0),0),((146,1),1),((146,2),2),((168,0),0),((168,1),1)],
 one:=[],
 elem:=[(36,44),(94,146),(144,168)] }
def qC:TabOk prog DB.tab:=TabL.ok Φ
def oC (x:Int):Bool:=(!decide (x=x))
def CQ:List (Nat×Ent):=[]
def ady:Par:=⟨DB.tab,aF CQ,λ_=>look [],λ_=>look []⟩
def adx:Code:=(f70.body).getD .skip
def Tt:Fi:=⟨ady,6,[.tmp 2],adx⟩
def Io (f:Nat)(x:Int):Option AV:=lH fi0 hs0 0 Tt [.bool] f [.val tInt x]
def Zt (f:Nat)(x:Int):Io f x=some (.val .bool (!x=x)):=Φ
def Zs:bD prog CQ→FiOk prog 70 (Tt):=λh=>⟨⟨f70,func70,rfl,Φ,Φ,Φ⟩,qC,af h⟩
def CP:Ent:=sp1 tInt (λ_=>true) λf=>.val .bool (oC f)
def V7 (l:bD prog CQ)(h:∀(f:Int),∃g,Io g f=some (.val .bool (oC f))):aj prog 70 CP:=sD λf _=>(let ⟨_,j⟩:=h f;bi follows (λ_ _ h=>by cases h) er (Zs l) (ds:=[⟨_,f⟩]) j)
def V8 (f:bD prog CQ):aj prog 70 CP:=V7 f (λx=>⟨0,by rw[Zt];first|rfl|(simp only[jL];rfl)⟩)
def Pc (x:Int)(y:Int):Int:=cond (oC x) (cond (oC y) (0:Int) (-1:Int)) (cond (oC y) (1:Int) (cond (x<y) (-1:Int) (cond (x>y) (1:Int) (0:Int))))
def Ln:List (Nat×Ent):=[(70,CP)]
def ag0:Par:=⟨DB.tab,aF Ln,λ_=>look [],λ_=>look []⟩
def agZ:Code:=(f41.body).getD .skip
def aaR:Fi:=⟨ag0,20,[.tmp 4],agZ⟩
def Pb (f:Nat)(x:Int)(y:Int):Option AV:=lH fi0 hs0 0 aaR [tInt] f [.val tInt x,.val tInt y]
def aeg (f:Nat)(x:Int)(y:Int):Pb f x y=cond (oC x) (cond (oC y) (some (.val tInt (0:Int))) (some (.val tInt (-1:Int)))) (cond (oC y) (some (.val tInt (1:Int))) (cond (x<y) (some (.val tInt (-1:Int))) (cond (x>y) (some (.val tInt (1:Int))) (some (.val tInt (0:Int)))))):=Φ
def aef:bD prog Ln→FiOk prog 41 (aaR):=λh=>⟨⟨f41,func41,rfl,Φ,Φ,Φ⟩,qC,af h⟩
def Lm:Ent:=sp2 tInt tInt (λ_ _=>true) λg f=>.val tInt (Pc g f)
def aaP (p:bD prog Ln)(h:∀(g:Int) (f:Int),∃j,Pb j g f=some (.val tInt (Pc g f))):aj prog 41 Lm:=JE λg f _=>(let ⟨_,l⟩:=h g f;bi follows (λ_ _ h=>by cases h) er (aef p) (ds:=[⟨_,g⟩,⟨_,f⟩]) l)
def aaQ (f:bD prog Ln):aj prog 41 Lm:=aaP f (λx y=>⟨0,by rw[aeg];first|rfl|(simp only[jL];rfl)⟩)
def ua (id:Int)(field:Int)(g:Int)(f:Int):Bool:=cond (id<g) true (cond (id=g) (decide (field<f)) false)
def C3:List (Nat×Ent):=[]
def aeM:Par:=⟨DB.tab,aF C3,λ_=>look [],λ_=>look []⟩
def aeL:Code:=(f145.body).getD .skip
def Uf:Fi:=⟨aeM,22,[.tmp 8],aeL⟩
def Bj (g:Nat)(id:Int)(field:Int)(j:Int)(f:Int):Option AV:=lH fi0 hs0 0 Uf [.bool] g [.val tInt id,.val tInt field,.val tInt j,.val tInt f]
def Xi (j:Nat)(id:Int)(field:Int)(f:Int)(g:Int):Bj j id field f g=cond (aN (!id<f) (!id<f)&&(aN (!id<f) (!id<f)&&true)&&true) (cond (aN (!id<f) (!id<f)&&true&&true) (cond (aN (!id<f&&id=f) (!id<f&&id=f)&&(aN (!id<f&&id=f) (!id<f&&id=f)&&true)&&true) (cond (aN (!id<f) (!id<f)&&aN (!id<f) (aN (!id<f&&id=f) (!id<f&&id=f)&&true)) (cond (aN (!id<f) (!id<f)) (some (.val .bool (cond (id<f) true (cond (id=f) (decide (field<g)) false)))) none) none) none) none) none:=Φ
def abP (j:Nat)(id:Int)(field:Int)(g:Int)(f:Int):Bj j id field g f=some (.val .bool (cond (id<g) true (cond (id=g) (decide (field<f)) false))):=by simpa only[aK,cd,z?,q?,O',E_,x?,p?,h?,r?,Int.reduceLE,Int.reduceEq,Int.reduceLT,b_]using Xi j id field g f
def abO:bD prog C3→FiOk prog 145 (Uf):=λh=>⟨⟨f145,func145,rfl,Φ,Φ,Φ⟩,qC,af h⟩
def vK:Ent:=sp4 tInt tInt tInt tInt (λ_ _ _ _=>true) λl j g f=>.val .bool (ua l j g f)
def Xj (C:bD prog C3)(h:∀(l:Int) (j:Int) (g:Int) (f:Int),∃p,Bj p l j g f=some (.val .bool (ua l j g f))):aj prog 145 vK:=X9 λl j g f _=>(let ⟨_,r⟩:=h l j g f;bi follows (λ_ _ h=>by cases h) er (abO C) (ds:=[⟨_,l⟩,⟨_,j⟩,⟨_,g⟩,⟨_,f⟩]) r)
def Xk (j:bD prog C3):aj prog 145 vK:=Xj j (λid field g f=>⟨0,by rw[abP];first|rfl|(simp only[jL];rfl)⟩)
def lR:MS:=⟨3,[(0,[.dat (.slice ag)]),(1,[.own aa 44]),(2,[.own aa 44])],[(1,.keep),(2,.keep),(3,.keep),(4,.dat tInt)]⟩
def E3:List (Nat×Ent):=[]
def lS:Par:=⟨DB.tab,aF E3,λ_=>look [(4,lR)],λ_=>look [(3,lR)]⟩
def yU:Code:=(f94.body).getD .skip
def NP:Fi:=⟨lS,41,[.cell 2 87],yU⟩
def If:Code:=sub yU [1,1,0,1,0,0]
def AD:Code:=sub yU [1,1,1]
def VJ:Code:=sub yU [1,1,0,1,0,0,1,1]
def E4:KT:=bB DB.tab [.cell 2 87] [aP]
def uX (f:Nat)(n:Nat)(s:ah.den)(i:Int)(g:(List aa.den)):Option AV:=aT 0 lR (λj k=>exec (bu fi0 hs0 f 0) lS 0 f If j k) (am 0 (be 0 none (λj k=>exec (bu fi0 hs0 f 0) lS 0 f AD j k) E4)) n ⟨mkE 41 [(1,.box 0 0),(2,.box 1 0),(3,.box 2 0),(4,.val tInt i)],mkH 5 [(0,.box [.val (.slice ag) s.1]),(1,.box [.own 3 0 aa []]),(2,.box [.own 4 0 aa g]),(3,.row aa 44 0),(4,.row aa 44 0)]⟩
def AC (f l:Nat)(i:Int)(s:ah.den)(j:(List aa.den)):Option AV:=exec (bu fi0 hs0 f 0) lS 0 f VJ ⟨mkE 41 [(1,.box 0 0),(2,.box 1 0),(3,.box 2 0),(4,.val tInt i)],mkH 5 [(0,.box [.val (.slice ag) s.1]),(1,.box [.own 3 0 aa []]),(2,.box [.own 4 0 aa j]),(3,.row aa 44 0),(4,.row aa 44 0)]⟩ (In 0 lR (aT 0 lR (λg k=>exec (bu fi0 hs0 f 0) lS 0 f If g k) (am 0 (be 0 none (λg k=>exec (bu fi0 hs0 f 0) lS 0 f AD g k) E4)) l) (am 0 (be 0 none (λg k=>exec (bu fi0 hs0 f 0) lS 0 f AD g k) E4)))
def xg (f:Nat)(s:ah.den):Option AV:=lH fi0 hs0 0 NP [aP] f [.val ah s]
def yS (g j:Nat)(s:ah.den)(i:Int)(f:(List aa.den)):uX g (j+1) s i f=cond (i<(s.1.length:Int)) (cond (0≤i&&i<(s.1.length:Int)) (cond (0≤(0:Int)&&0<((ix ag s.1 i).2.2.1.length:Int)) (cond (!eqD aO (ix eL (ix ag s.1 i).2.2.1 0).2.1 (0,false,[],0,())) (cond (0≤(0:Int)&&0<((ix ag s.1 i).2.2.1.length:Int)) (cond (List.length f+List.length ([((ix ag s.1 i).1,(ix ag s.1 i).2.1,(ix eL (ix ag s.1 i).2.2.1 0).2.1,())]:List aa.den)≤LIM) (AC g j i s (f++[((ix ag s.1 i).1,(ix ag s.1 i).2.1,(ix eL (ix ag s.1 i).2.2.1 0).2.1,())])) none) none) (AC g j i s f)) none) none) (some (.val aP (f,()))):=Φ
def yT (f j:Nat)(i:Int)(s:ah.den)(g:(List aa.den)):AC f j i s g=(uX f j s (w64 (i+1)) g):=Φ
def VI (f:Nat)(s:ah.den):xg f s=(uX f f s 0 []):=Φ
def VH:bD prog E3→FiOk prog 94 (NP):=λh=>⟨⟨f94,func94,rfl,Φ,Φ,Φ⟩,qC,af h⟩
def E2:Ent:=sp1 ah (λf=>stG f) λf=>.val aP (eX f)
def Q4 (p:bD prog E3)(h:∀(f:ah.den),stG f=true→∃g,xg g f=some (.val aP (eX f))):aj prog 94 E2:=sD λf j=>(let ⟨_,l⟩:=h f j;bi follows (λ_ _ h=>by cases h) er (VH p) (ds:=[⟨_,f⟩]) l)
def Eq:MS:=⟨1,[(0,[.dat (.slice ag)])],[(1,.dat tInt),(2,.dat tInt),(3,.keep),(7,.dat tInt),(8,.dat tInt)]⟩
def Es:List (Nat×Ent):=[(145,vK)]
def Et:Par:=⟨DB.tab,aF Es,λ_=>look [],λ_=>look [(2,Eq)]⟩
def Er:Code:=(f182.body).getD .skip
def Nq:Fi:=⟨Et,39,[.tmp 6],Er⟩
def Vp:Code:=sub Er [1,1,0,0,0]
def Vo:Code:=sub Er [1,1,1]
def YJ:KT:=bB DB.tab [.tmp 6] [tInt]
def gC (f:Nat)(n:Nat)(id:Int)(field:Int)(s:ah.den)(j:Int)(l:Int):Option AV:=aT 0 Eq (λg k=>exec (bu fi0 hs0 f 0) Et 0 f Vp g k) (am 0 (be 0 none (λg k=>exec (bu fi0 hs0 f 0) Et 0 f Vo g k) YJ)) n ⟨mkE 39 [(1,.val tInt id),(2,.val tInt field),(3,.box 0 0),(7,.val tInt j),(8,.val tInt l)],mkH 1 [(0,.box [.val (.slice ag) s.1])]⟩
def xa (f:Nat)(s:ah.den)(id:Int)(field:Int):Option AV:=lH fi0 hs0 0 Nq [tInt] f [.val ah s,.val tInt id,.val tInt field]
def GR (j l:Nat)(id:Int)(field:Int)(s:ah.den)(f:Int)(g:Int):gC j (l+1) id field s f g=cond (f<g) (cond (!(2:Int)=0) (cond (0≤w64 (Int.tdiv (w64 (f+g)) 2)&&w64 (Int.tdiv (w64 (f+g)) 2)<(s.1.length:Int)) (cond (0≤w64 (Int.tdiv (w64 (f+g)) 2)&&w64 (Int.tdiv (w64 (f+g)) 2)<(s.1.length:Int)) (cond (ua (ix ag s.1 (w64 (Int.tdiv (w64 (f+g)) 2))).1 (ix ag s.1 (w64 (Int.tdiv (w64 (f+g)) 2))).2.1 id field) (gC j l id field s (w64 (w64 (Int.tdiv (w64 (f+g)) 2)+1)) g) (gC j l id field s f (w64 (Int.tdiv (w64 (f+g)) 2)))) none) none) none) (some (.val tInt f)):=Φ
def Ke (f l:Nat)(id:Int)(field:Int)(s:ah.den)(g:Int)(j:Int):gC f (l+1) id field s g j=cond (g<j) (cond (0≤w64 (Int.tdiv (w64 (g+j)) 2)&&w64 (Int.tdiv (w64 (g+j)) 2)<(s.1.length:Int)) (cond (0≤w64 (Int.tdiv (w64 (g+j)) 2)&&w64 (Int.tdiv (w64 (g+j)) 2)<(s.1.length:Int)) (cond (ua (ix ag s.1 (w64 (Int.tdiv (w64 (g+j)) 2))).1 (ix ag s.1 (w64 (Int.tdiv (w64 (g+j)) 2))).2.1 id field) (gC f l id field s (w64 (w64 (Int.tdiv (w64 (g+j)) 2)+1)) j) (gC f l id field s g (w64 (Int.tdiv (w64 (g+j)) 2)))) none) none) (some (.val tInt g)):=by simpa only[aK,cd,z?,q?,O',E_,x?,p?,h?,r?,Int.reduceLE,Int.reduceEq,Int.reduceLT,b_]using GR f l id field s g j
def Vn (f:Nat)(s:ah.den)(id:Int)(field:Int):xa f s id field=(gC f f id field s 0 (s.1.length:Int)):=Φ
def Vm:bD prog Es→FiOk prog 182 (Nq):=λh=>⟨⟨f182,func182,rfl,Φ,Φ,Φ⟩,qC,af h⟩
def yB:Ent:=sp3 ah tInt tInt (λj g f=>cj j g f) λj g f=>.val tInt (ae j g f)
def QF (C:bD prog Es)(h:∀(j:ah.den) (g:Int) (f:Int),cj j g f=true→∃l,xa l j g f=some (.val tInt (ae j g f))):aj prog 182 yB:=Ya λj g f p=>(let ⟨_,r⟩:=h j g f p;bi follows (λ_ _ h=>by cases h) er (Vm C) (ds:=[⟨_,j⟩,⟨_,g⟩,⟨_,f⟩]) r)
def LB:List (Nat×Ent):=[(182,yB)]
def aeI:Par:=⟨DB.tab,aF LB,λ_=>look [],λ_=>look []⟩
def aeH:Code:=(f141.body).getD .skip
def Ud:Fi:=⟨aeI,43,[.tmp 6],aeH⟩
def vI (f:Nat)(s:ah.den)(id:Int)(field:Int):Option AV:=lH fi0 hs0 0 Ud [.slice eL] f [.val ah s,.val tInt id,.val tInt field]
def Xf (f:Nat)(s:ah.den)(id:Int)(field:Int):vI f s id field=cond (cj s id field) (cond (aN (decide (ae s id field<(s.1.length:Int))) (decide (ae s id field<(s.1.length:Int)))&&true&&true) (cond (aN (decide (ae s id field<(s.1.length:Int))) (decide (ae s id field<(s.1.length:Int)))&&(aN (decide (ae s id field<(s.1.length:Int))) (decide (ae s id field<(s.1.length:Int)))&&true)&&aN (decide (ae s id field<(s.1.length:Int))) (0≤ae s id field&&ae s id field<(s.1.length:Int))) (cond (aN (decide (ae s id field<(s.1.length:Int))) (decide (ae s id field<(s.1.length:Int)))&&true&&true) (cond (aN (decide (ae s id field<(s.1.length:Int))) (decide (ae s id field<(s.1.length:Int)))&&true&&true) (cond (aN (decide (ae s id field<(s.1.length:Int))) (decide (ae s id field<(s.1.length:Int)))&&(aN (decide (ae s id field<(s.1.length:Int))) (decide (ae s id field<(s.1.length:Int)))&&true)&&true) (cond (aN (decide (ae s id field<(s.1.length:Int))) (decide (ae s id field<(s.1.length:Int)))&&true) (cond (aN (cond (ae s id field<(s.1.length:Int)) (decide ((ix ag s.1 (ae s id field)).1=id)) false) (cond (ae s id field<(s.1.length:Int)) (decide ((ix ag s.1 (ae s id field)).1=id)) false)&&true&&true) (cond (aN (cond (ae s id field<(s.1.length:Int)) (decide ((ix ag s.1 (ae s id field)).1=id)) false) (cond (ae s id field<(s.1.length:Int)) (decide ((ix ag s.1 (ae s id field)).1=id)) false)&&(aN (cond (ae s id field<(s.1.length:Int)) (decide ((ix ag s.1 (ae s id field)).1=id)) false) (cond (ae s id field<(s.1.length:Int)) (decide ((ix ag s.1 (ae s id field)).1=id)) false)&&true)&&aN (cond (ae s id field<(s.1.length:Int)) (decide ((ix ag s.1 (ae s id field)).1=id)) false) (0≤ae s id field&&ae s id field<(s.1.length:Int))) (cond (aN (cond (ae s id field<(s.1.length:Int)) (decide ((ix ag s.1 (ae s id field)).1=id)) false) (cond (ae s id field<(s.1.length:Int)) (decide ((ix ag s.1 (ae s id field)).1=id)) false)&&true&&true) (cond (aN (cond (ae s id field<(s.1.length:Int)) (decide ((ix ag s.1 (ae s id field)).1=id)) false) (cond (ae s id field<(s.1.length:Int)) (decide ((ix ag s.1 (ae s id field)).1=id)) false)&&true&&true) (cond (aN (cond (ae s id field<(s.1.length:Int)) (decide ((ix ag s.1 (ae s id field)).1=id)) false) (cond (ae s id field<(s.1.length:Int)) (decide ((ix ag s.1 (ae s id field)).1=id)) false)&&(aN (cond (ae s id field<(s.1.length:Int)) (decide ((ix ag s.1 (ae s id field)).1=id)) false) (cond (ae s id field<(s.1.length:Int)) (decide ((ix ag s.1 (ae s id field)).1=id)) false)&&true)&&true) (cond (aN (cond (ae s id field<(s.1.length:Int)) (decide ((ix ag s.1 (ae s id field)).1=id)) false) (cond (ae s id field<(s.1.length:Int)) (decide ((ix ag s.1 (ae s id field)).1=id)) false)&&true) (cond (cond (cond (ae s id field<(s.1.length:Int)) ((ix ag s.1 (ae s id field)).1=id) false) ((ix ag s.1 (ae s id field)).2.1=field) false) (cond (0≤ae s id field&&ae s id field<(s.1.length:Int)) (some (.val (.slice eL) (ix ag s.1 (ae s id field)).2.2.1)) none) (some (.val (.slice eL) []))) none) none) none) none) none) none) none) none) none) none) none) none) none:=Φ
def abE (f:Nat)(s:ah.den)(id:Int)(field:Int):vI f s id field=cond (cj s id field) (cond (aN (decide (ae s id field<(s.1.length:Int))) (0≤ae s id field&&ae s id field<(s.1.length:Int))) (cond (aN (cond (ae s id field<(s.1.length:Int)) (decide ((ix ag s.1 (ae s id field)).1=id)) false) (0≤ae s id field&&ae s id field<(s.1.length:Int))) (cond (cond (cond (ae s id field<(s.1.length:Int)) ((ix ag s.1 (ae s id field)).1=id) false) ((ix ag s.1 (ae s id field)).2.1=field) false) (cond (0≤ae s id field&&ae s id field<(s.1.length:Int)) (some (.val (.slice eL) (ix ag s.1 (ae s id field)).2.2.1)) none) (some (.val (.slice eL) []))) none) none) none:=by simpa only[aK,cd,z?,q?,O',E_,x?,p?,h?,r?,Int.reduceLE,Int.reduceEq,Int.reduceLT,b_]using Xf f s id field
def abD:bD prog LB→FiOk prog 141 (Ud):=λh=>⟨⟨f141,func141,rfl,Φ,Φ,Φ⟩,qC,af h⟩
def C2:Ent:=sp3 ah tInt tInt (λj g f=>cj j g f) λj g f=>.val (.slice eL) (iy j g f)
def Xg (C:bD prog LB)(h:∀(j:ah.den) (g:Int) (f:Int),cj j g f=true→∃l,vI l j g f=some (.val (.slice eL) (iy j g f))):aj prog 141 C2:=Ya λj g f p=>(let ⟨_,r⟩:=h j g f p;bi follows (λ_ _ h=>by cases h) er (abD C) (ds:=[⟨_,j⟩,⟨_,g⟩,⟨_,f⟩]) r)
def Yg:MS:=⟨2,[(0,[.dat (.slice ag)]),(1,[.own ag 146])],[(1,.dat tInt),(2,.dat tInt),(4,.keep),(8,.keep),(9,.dat tInt),(10,.own ag 146)]⟩
def Yf:MS:=⟨2,[(0,[.dat (.slice ag)]),(1,[.own ag 146])],[(4,.keep),(8,.keep),(9,.dat tInt),(10,.own ag 146)]⟩
def Ql:List (Nat×Ent):=[(182,yB)]
def Qm:Par:=⟨DB.tab,aF Ql,λ_=>look [(5,Yg),(7,Yf)],λ_=>look []⟩
def Qk:Code:=(f142.body).getD .skip
def Yj:Fi:=⟨Qm,65,[.cell 8 96],Qk⟩
def aci:Code:=sub Qk [1,1,1,1]
def ach:Code:=sub Qk [1,1,1,1,1]
def Yi:KT:=bB DB.tab [.cell 8 96] [ah]
def yc (f:Nat)(id:Int)(field:Int)(s:ah.den)(out:(List ag.den)):Option AV:=exec (bu fi0 hs0 f 0) Qm 0 f aci ⟨mkE 65 [(1,.val tInt id),(2,.val tInt field),(4,.box 0 0),(8,.box 1 0),(9,.val tInt (ae s id field)),(10,.own 3 0 ag out)],mkH 4 [(0,.box [.val (.slice ag) s.1]),(1,.box [.own 2 0 ag []]),(2,.row ag 146 0),(3,.row ag 146 0)]⟩ Yi
def uG (f:Nat)(out:(List ag.den))(s:ah.den)(g:Int):Option AV:=exec (bu fi0 hs0 f 0) Qm 0 f ach ⟨mkE 65 [(4,.box 0 0),(8,.box 1 0),(9,.val tInt g),(10,.own 3 0 ag out)],mkH 4 [(0,.box [.val (.slice ag) s.1]),(1,.box [.own 2 0 ag []]),(2,.row ag 146 0),(3,.row ag 146 0)]⟩ Yi
def DR (f:Nat)(s:ah.den)(id:Int)(field:Int)(l:(List eL.den)):Option AV:=lH fi0 hs0 0 Yj [ah] f [.val ah s,.val tInt id,.val tInt field,.val (.slice eL) l]
def MM (f:Nat)(id:Int)(field:Int)(s:ah.den)(out:(List ag.den)):yc f id field s out=cond (aN (decide (ae s id field<(s.1.length:Int))) (decide (ae s id field<(s.1.length:Int)))&&true&&true) (cond (aN (decide (ae s id field<(s.1.length:Int))) (decide (ae s id field<(s.1.length:Int)))&&(aN (decide (ae s id field<(s.1.length:Int))) (decide (ae s id field<(s.1.length:Int)))&&true)&&aN (decide (ae s id field<(s.1.length:Int))) (0≤ae s id field&&ae s id field<(s.1.length:Int))) (cond (aN (decide (ae s id field<(s.1.length:Int))) (decide (ae s id field<(s.1.length:Int)))&&true&&true) (cond (aN (decide (ae s id field<(s.1.length:Int))) (decide (ae s id field<(s.1.length:Int)))&&true&&true) (cond (aN (decide (ae s id field<(s.1.length:Int))) (decide (ae s id field<(s.1.length:Int)))&&(aN (decide (ae s id field<(s.1.length:Int))) (decide (ae s id field<(s.1.length:Int)))&&true)&&true) (cond (aN (decide (ae s id field<(s.1.length:Int))) (decide (ae s id field<(s.1.length:Int)))&&true) (cond (aN (cond (ae s id field<(s.1.length:Int)) (decide ((ix ag s.1 (ae s id field)).1=id)) false) (cond (ae s id field<(s.1.length:Int)) (decide ((ix ag s.1 (ae s id field)).1=id)) false)&&true&&true) (cond (aN (cond (ae s id field<(s.1.length:Int)) (decide ((ix ag s.1 (ae s id field)).1=id)) false) (cond (ae s id field<(s.1.length:Int)) (decide ((ix ag s.1 (ae s id field)).1=id)) false)&&(aN (cond (ae s id field<(s.1.length:Int)) (decide ((ix ag s.1 (ae s id field)).1=id)) false) (cond (ae s id field<(s.1.length:Int)) (decide ((ix ag s.1 (ae s id field)).1=id)) false)&&true)&&aN (cond (ae s id field<(s.1.length:Int)) (decide ((ix ag s.1 (ae s id field)).1=id)) false) (0≤ae s id field&&ae s id field<(s.1.length:Int))) (cond (aN (cond (ae s id field<(s.1.length:Int)) (decide ((ix ag s.1 (ae s id field)).1=id)) false) (cond (ae s id field<(s.1.length:Int)) (decide ((ix ag s.1 (ae s id field)).1=id)) false)&&true&&true) (cond (aN (cond (ae s id field<(s.1.length:Int)) (decide ((ix ag s.1 (ae s id field)).1=id)) false) (cond (ae s id field<(s.1.length:Int)) (decide ((ix ag s.1 (ae s id field)).1=id)) false)&&true&&true) (cond (aN (cond (ae s id field<(s.1.length:Int)) (decide ((ix ag s.1 (ae s id field)).1=id)) false) (cond (ae s id field<(s.1.length:Int)) (decide ((ix ag s.1 (ae s id field)).1=id)) false)&&(aN (cond (ae s id field<(s.1.length:Int)) (decide ((ix ag s.1 (ae s id field)).1=id)) false) (cond (ae s id field<(s.1.length:Int)) (decide ((ix ag s.1 (ae s id field)).1=id)) false)&&true)&&true) (cond (aN (cond (ae s id field<(s.1.length:Int)) (decide ((ix ag s.1 (ae s id field)).1=id)) false) (cond (ae s id field<(s.1.length:Int)) (decide ((ix ag s.1 (ae s id field)).1=id)) false)&&true) (cond (cond (cond (ae s id field<(s.1.length:Int)) ((ix ag s.1 (ae s id field)).1=id) false) ((ix ag s.1 (ae s id field)).2.1=field) false) (uG f out s (w64 (ae s id field+1))) (uG f out s (ae s id field))) none) none) none) none) none) none) none) none) none) none) none) none:=Φ
def Qi (f:Nat)(id:Int)(field:Int)(s:ah.den)(out:(List ag.den)):yc f id field s out=cond (aN (decide (ae s id field<(s.1.length:Int))) (0≤ae s id field&&ae s id field<(s.1.length:Int))) (cond (aN (cond (ae s id field<(s.1.length:Int)) (decide ((ix ag s.1 (ae s id field)).1=id)) false) (0≤ae s id field&&ae s id field<(s.1.length:Int))) (cond (cond (cond (ae s id field<(s.1.length:Int)) ((ix ag s.1 (ae s id field)).1=id) false) ((ix ag s.1 (ae s id field)).2.1=field) false) (uG f out s (w64 (ae s id field+1))) (uG f out s (ae s id field))) none) none:=by simpa only[aK,cd,z?,q?,O',E_,x?,p?,h?,r?,Int.reduceLE,Int.reduceEq,Int.reduceLT,b_]using MM f id field s out
def Qh (g:Nat)(out:(List ag.den))(s:ah.den)(f:Int):uG g out s f=cond (0≤f&&f≤(s.1.length:Int)) (cond (List.length out+List.length ((List.take (List.length s.1) s.1).drop (Int.toNat f))≤LIM) (some (.val ah (out++(List.take (List.length s.1) s.1).drop (Int.toNat f),()))) none) none:=Φ
def acg (f:Nat)(s:ah.den)(id:Int)(field:Int)(l:(List eL.den)):DR f s id field l=cond (cj s id field) (cond (0≤ae s id field&&ae s id field≤(s.1.length:Int)) (cond (List.length ([]:List ag.den)+List.length ((List.take (Int.toNat (ae s id field)) s.1).drop 0)≤LIM) (cond ((l.length:Int)>0) (cond (List.length ([]++(List.take (Int.toNat (ae s id field)) s.1).drop 0)+List.length ([(id,field,l,())]:List ag.den)≤LIM) (yc f id field s ([]++(List.take (Int.toNat (ae s id field)) s.1).drop 0++[(id,field,l,())])) none) (yc f id field s ([]++(List.take (Int.toNat (ae s id field)) s.1).drop 0))) none) none) none:=Φ
def acf:bD prog Ql→FiOk prog 142 (Yj):=λh=>⟨⟨f142,func142,rfl,Φ,Φ,Φ⟩,qC,af h⟩
def Qj:Ent:=sp4 ah tInt tInt (.slice eL) (λl j g f=>acj l j g f) λl j g f=>.val ah (ot l j g f)
def Yh (J:bD prog Ql)(h:∀(l:ah.den) (j:Int) (g:Int) (f:(List eL.den)),acj l j g f=true→∃p,DR p l j g f=some (.val ah (ot l j g f))):aj prog 142 Qj:=X9 λl j g f r=>(let ⟨_,C⟩:=h l j g f r;bi follows (λ_ _ h=>by cases h) er (acf J) (ds:=[⟨_,l⟩,⟨_,j⟩,⟨_,g⟩,⟨_,f⟩]) C)
def qp {n:Int}(g : -9223372036854775808≤n)(f:n<9223372036854775808):w64 n=n:=by unfold w64;simp[IntKind.wrap,IntKind.bits,IntKind.signed];omega
def abV {n:Nat}(h:n<9223372036854775808):w64 (n:Int)=n:=qp Ω Ω
variable{t:Ty}{p:Prop}{s:Sta}
def gi (p:List t.den)(c:t.den)(r:List t.den):ix t (p++c::r) (p.length:Int)=c:=by simp[ix]
def KD (p:List t.den)(c:t.den)(r:List t.den):decide ((p.length:Int)<((p++c::r).length:Int))=true:=by simp;omega
def Q9 (p:List t.den):decide ((p.length:Int)<((p++[]).length:Int))=false:=by simp
def Y4 (p:List t.den):decide (0≤(p.length:Int))=true:=by simp
def QX (p:List t.den)(c:t.den)(h:p.length<9223372036854775807):w64 ((p.length:Int)+1)=((p++[c]).length:Int):=by rw[qp Ω Ω];simp
def ahk (p:List t.den)(c:t.den)(r:List t.den):p++c::r=(p++[c])++r:=by simp
def adG (a b:Bool):aN a b=(!a||b):=by cases a <;> cases b <;> rfl
def dt [Decidable p](h:p):decide p=true:=e? h
def df [Decidable p](h:¬p):decide p=false:=ajB h
def V9 (x:Int):oC x=false:=by simp[oC]
def aaS (x y:Int):Pc x y=adI x y:=by simp[Pc,V9,adI];by_cases h:x<y <;> by_cases f:y<x <;> simp[h,f]
def vL (i f i2 g:Int):ua i f i2 g=ahd i f i2 g:=by unfold ua ahd;by_cases p:i<i2 <;> by_cases l:i=i2 <;> by_cases j:f<g <;> simp[p,l,j]
def K7:∀(t:Ty) (x y:t.den),eqD t x y=true→x=y
 |.int _,x,y,h=>by simpa[eqD]using h
 |.bool,x,y,h=>by simpa[eqD]using h
 |.str,x,y,h=>by simpa[eqD]using h
 |.unit,_,_,_=>rfl
 |.cons a b,x,y,h=>by simp[eqD]at h;exact Prod.ext (K7 a _ _ h.1) (K7 b _ _ h.2)
 |.slice _,_,_,h=>by simp[eqD]at h
 |.tree,_,_,h=>by simp[eqD]at h
def adt (c:t.den)(r:List t.den):ix t (c::r) 0=c:=rfl
def Q3 (x:Slt)(r:List Slt):(eX (x::r,())).1=(bif !eqD aO (tM x) zv then[(x.1,x.2.1,tM x,())]else[])++(eX (r,())).1:=by simp[eX,Q?];cases eqD aO (tM x) zv <;> simp
def UV (h:stG s=true):s.1.length≤1048576∧∀x∈s.1,x.2.2.1≠[]∧x.2.2.1.length≤1048576:=by simp only[stG,ι,ο,Z']at h;refine⟨h.1,λx f=>?_⟩;have:=h.2 x f;simp[adl]at this;exact⟨λe=>by rw[e]at this;simp at this,this.2⟩
def NO (C:Nat)(u:Unit):∀(n:Nat) (r p:List Slt) (f:List Cel),r.length<n→(p++r).length≤1048576→(∀x∈r,x.2.2.1≠[])→f.length≤p.length →
  uX C n (p++r,u) (p.length:Int) f=some (.val aP (f++(eX (r,())).1,())):=by
 intro n;induction n with
 |zero=>intro r p f h;omega
 |succ n T=>
  intro r p f h hl j ha;cases r with
  |nil=>rw[yS];dsimp only;rw[Q9 (t:=ag)];simp[eX]
  |cons c r=>
   obtain⟨ci,R,J,P⟩:=c;cases J with
   |nil=>exact absurd rfl (j _ (e_ ..))
   |cons a J=>
    have hl':p.length+(r.length+1)≤1048576:=by simpa using hl
    have next:=λg (h':g.length≤p.length+1)=>T r (p++[(ci,R,a::J,P)]) g (by simp at h;omega) Ξ (λx U=>j x (X' _ U)) (by simpa using h')
    rw[←ahk (t:=ag),←QX (t:=ag) p (ci,R,a::J,P) Ω]at next
    rw[yS];dsimp only;rw[gi (t:=ag),KD (t:=ag),Y4 (t:=ag),yT,yT,next _ Ξ,next _ Ω];dsimp only;rw[adt (t:=eL),Q3];have l:f.length+1≤LIM:=by simp[LIM];omega
    have hq:decide ((0:Int)<((a::J).length:Int))=true:=dt Ψ;rw[hq];simp[tM,zv];cases eqD aO a.2.1 (0,false,[],0,()) <;> simp[l]
def KB (s:Sta)(h:stG s=true):∃f,xg f s=some (.val aP (eX s)):=by obtain⟨p,j⟩:=UV h;obtain⟨l,u⟩:=s;refine⟨l.length+1, ?_⟩;rw[VI];exact NO _ u (l.length+1) l [] [] Ω p (λx g=>(j x g).1) Ψ
def rG {i f j g:Int}:ahd i f j g=true↔i<j∨(i=j∧f<g):=by simp[ahd]
def ahn {i f j g:Int}:ahd i f j g=false ↔ ¬(i<j∨(i=j∧f<g)):=by rw[←rG];simp
def kW {i f j g k h:Int}(p:ahd i f j g=true)(l:ahd j g k h=true):ahd i f k h=true:=by rw[rG]at *;omega
def Ug {i f j g:Int}(h:ahd i f j g=false)(l:¬(i=j∧f=g)):ahd j g i f=true:=by rw[ahn]at h;rw[rG];omega
def YI {L:List Slt}(J:L.Pairwise jO)(id field:Int):∀m,m<L.length→ahd (L.getD m (zero ag)).1 (L.getD m (zero ag)).2.1 id field=decide (m<(L.takeWhile (λx=>ahd x.1 x.2.1 id field)).length):=by
 induction L with
 |nil=>intro m j;simp at j
 |cons x L r=>
  obtain⟨R,P⟩:=n_.1 J;intro m j;rw[List.takeWhile_cons];cases l:ahd x.1 x.2.1 id field with
  |true=>
   cases m with
   |zero=>simp[List.getD,l]
   |succ m =>have:=r P m (by simpa using j);simpa[List.getD]using this
  |false=>
   cases m with
   |zero=>simp[List.getD,l]
   |succ m=>
    have g:m<L.length:=by simpa using j
    have f:L.getD m (zero ag)∈L:=by simp only[List.getD,ε g,O?];exact c_ g
    have p:=R _ f;have e:(x::L).getD (m+1) (zero ag)=L.getD m (zero ag):=by simp[List.getD]
    rw[e];cases C:ahd (L.getD m (zero ag)).1 (L.getD m (zero ag)).2.1 id field with
    |false=>simp
    |true =>have:=kW p C;rw[l]at this;cases this
def QE (j:Nat)(id field:Int)(L:List Slt)(u:Unit)(hl:L.length≤1048576)(r:L.Pairwise jO):∀(n f g:Nat),g-f<n→f≤(L.takeWhile (λx=>ahd x.1 x.2.1 id field)).length→(L.takeWhile (λx=>ahd x.1 x.2.1 id field)).length≤g→g≤L.length →
  gC j n id field (L,u) (f:Int) (g:Int)=some (.val tInt ((L.takeWhile (λx=>ahd x.1 x.2.1 id field)).length:Int)):=by
 intro n;induction n with
 |zero=>intro f g h;omega
 |succ n l=>
  intro f g h U T R;rw[Ke];dsimp only;by_cases P:f<g
  ·have e1:w64 ((f:Int)+(g:Int))=((f+g:Nat):Int):=by rw[qp Ω Ω];simp
   have e2:Int.tdiv ((f+g:Nat):Int) 2=(((f+g)/2:Nat):Int):=rfl;have e3:w64 (((f+g)/2:Nat):Int)=(((f+g)/2:Nat):Int):=abV Ω;rw[e1,e2,e3];generalize hm:(f+g)/2=m;have J:f≤m:=Ω
   have C:m<g:=Ω
   have e4:w64 ((m:Int)+1)=((m+1:Nat):Int):=by rw[qp Ω Ω];simp
   have e5:ix ag L (m:Int)=L.getD m (zero ag):=by simp[ix]
   rw[e4,e5,vL,YI r id field m Ω];have c1:decide ((f:Int)<(g:Int))=true:=dt Ω;have c2:decide ((0:Int)≤(m:Int))=true:=dt Ω;have c3:decide ((m:Int)<(L.length:Int))=true:=dt Ω;rw[c1,c2,c3];simp;by_cases p:m<(L.takeWhile (λx=>ahd x.1 x.2.1 id field)).length
   ·rw[dt p,O'];exact l (m+1) g Ω Ω T R
   ·rw[df p,E_];exact l f m Ω U Ω Ω
  ·have c1:decide ((f:Int)<(g:Int))=false:=df Ω;have e:(L.takeWhile (λx=>ahd x.1 x.2.1 id field)).length=f:=Ω
   rw[c1,E_,e]
def yC {id field:Int}(h:cj s id field=true):s.1.length≤1048576∧s.1.Pairwise jO:=by simpa[cj,aeG]using h
def Kd (s:Sta)(id field:Int)(h:cj s id field=true):∃f,xa f s id field=some (.val tInt (ae s id field)):=by obtain⟨j,g⟩:=yC h;obtain⟨l,u⟩:=s;refine⟨l.length+1, ?_⟩;rw[Vn];exact QE _ id field l u j g (l.length+1) 0 l.length Ω (k_ _) (List.takeWhile_sublist _).length_le (ζ _)
def Cv (s:Sta)(id field:Int):s.1=before s id field++mG s id field:=(List.takeWhile_append_dropWhile).symm
def Pt (s:Sta)(id field:Int)(h:cj s id field=true):∃f,vI f s id field=some (.val (.slice eL) (iy s id field)):=by
 refine⟨0, ?_⟩;rw[abE,h];have g:=Cv s id field;unfold iy ae;generalize before s id field=p at *;cases j:mG s id field with
 |nil =>rw[j]at g;rw[g];have c:decide ((p.length:Int)<((p++[]).length:Int))=false:=df Ψ;rw[c];simp[FV]
 |cons x r =>rw[j]at g;rw[g,gi (t:=ag),KD (t:=ag),Y4 (t:=ag)];simp[cd];by_cases C:x.1=id <;> by_cases l:x.2.1=field <;> simp[C,l]
def aav (p:List t.den)(c:t.den)(r:List t.den):List.drop (p.length+1) (p++c::r)=r:=by rw[←List.drop_drop];simp
def Qg (s:Sta)(id field:Int)(l:List Alt)(h:acj s id field l=true):∃g,DR g s id field l=some (.val ah (ot s id field l)):=by
 refine⟨0, ?_⟩;have hG:cj s id field=true:=h;obtain⟨h1,_⟩:=yC hG;have f:=Cv s id field;unfold ot;have C:∀(out:List Slt) (k:Nat),out.length≤2097152→k≤s.1.length→uG 0 out s (k:Int)=some (.val ah (out++s.1.drop k,())):=by intro out k j p;rw[Qh];have c1:decide ((0:Int)≤(k:Int))=true:=dt Ω;have c2:decide ((k:Int)≤(s.1.length:Int))=true:=dt Ω;have P:decide (out.length+((List.take s.1.length s.1).drop (Int.toNat (k:Int))).length≤LIM)=true:=dt (by simp[LIM];omega);rw[c1,c2,P];simp
 have R:∀out:List Slt,out.length≤2097152→yc 0 id field s out=some (.val ah (out++WF id field (mG s id field),())):=by
  intro out j;have p:(before s id field).length≤s.1.length:=by rw[f];simp
  rw[Qi];unfold ae;cases T:mG s id field with
  |nil=>
   rw[T]at f;have c:decide (((before s id field).length:Int)<(s.1.length:Int))=false:=df (by rw[f];simp);rw[c,C out _ j p];have hd:s.1.drop (before s id field).length=[]:=by rw[f];simp
   rw[hd];simp[FV,WF]
  |cons x r=>
   rw[T]at f;have J:(before s id field).length+1≤s.1.length:=by rw[f];simp
   have e1:ix ag s.1 ((before s id field).length:Int)=x:=by rw[f];exact gi (t:=ag) _ _ _
   have c1:decide (((before s id field).length:Int)<(s.1.length:Int))=true:=dt Ω;have c2:decide ((0:Int)≤((before s id field).length:Int))=true:=dt Ω;have e2:w64 (((before s id field).length:Int)+1)=(((before s id field).length+1:Nat):Int):=by rw[qp Ω Ω];simp
   have d1:s.1.drop (before s id field).length=x::r:=by rw[f];simp
   have d2:s.1.drop ((before s id field).length+1)=r:=by rw[f];exact aav (t:=ag) _ _ _
   rw[e1,c1,c2,e2,C out _ j p,C out _ j J,d1,d2];simp[cd];by_cases g1:x.1=id <;> by_cases g2:x.2.1=field <;> simp[g1,g2,WF]
 rw[acg,hG];unfold ae;have p:(before s id field).length≤s.1.length:=by rw[f];simp
 have U:(List.take (Int.toNat ((before s id field).length:Int)) s.1).drop 0=before s id field:=by simp;rw[f];simp
 have c1:decide ((0:Int)≤((before s id field).length:Int))=true:=dt Ω;have c2:decide (((before s id field).length:Int)≤(s.1.length:Int))=true:=dt Ω;have P:decide (([]:List Slt).length+(before s id field).length≤LIM)=true:=dt (by simp[LIM];omega);have c4:decide ((([]:List Slt)++before s id field).length+([(id,field,l,())]:List Slt).length≤LIM)=true:=dt (by simp[LIM];omega);rw[U,c1,c2,P,c4,R _ Ξ,R _ Ξ];cases l with
 |nil=>simp
 |cons a l =>have c5:decide (((a::l).length:Int)>0)=true:=dt Ψ;rw[c5];simp
def vY {f:Type}(p:f→Bool):∀(l:List f),∀x∈l.takeWhile p,p x=true
 |[],x,h=>by simp at h
 |y::l,x,h=>by
  rw[List.takeWhile_cons]at h;split at h
  next hy=>
   obtain rfl|h:=K'.1 h
   ·exact hy
   ·exact vY p l x h
  ·simp at h
def tR {f:Type}(p:f→Bool):∀(l:List f) (x:f) (r:List f),l.dropWhile p=x::r→p x=false
 |[],x,r,h=>by simp at h
 |y::l,x,r,h=>by
  rw[List.dropWhile_cons]at h;split at h
  ·exact tR p l x r h
  next hy=>injection h with h1 h2;subst h1;simpa using hy
def VG (s:Sta):(eX s).1.length≤s.1.length:=by simp only[eX,d_];exact Q_ _ _
def adw:aj prog 70 CP:=V8 trivial
def agY:aj prog 41 Lm:=aaQ ⟨adw,anO⟩
def LF:aj prog 145 vK:=Xk trivial
def Za:aj prog 94 E2:=Q4 trivial  KB
def Np:aj prog 182 yB:=QF ⟨LF,anO⟩  Kd
def LA:aj prog 141 C2:=Xg ⟨Np,anO⟩  Pt
def afF:aj prog 142 Qj:=Yh ⟨Np,anO⟩  Qg
