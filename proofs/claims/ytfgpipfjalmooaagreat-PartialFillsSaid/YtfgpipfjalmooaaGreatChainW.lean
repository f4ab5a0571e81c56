/- Every function's contract. -/
import Derived.Test.YtfgpipfjalmooaaGreatGenG
set_option linter.all false
noncomputable section
namespace Go.Proofs.YtfgpipfjalmooaaGreat
namespace Abs
abbrev eO:Ty:=(.cons tInt (.cons aJ .unit))
abbrev ah:Ty:=.cons tInt (.cons tInt (.cons (.slice eO) .unit))
abbrev ai:Ty:=(.cons (.slice ah) .unit)
abbrev Val:=aJ.den
abbrev Alt:=eO.den
abbrev Slt:=ah.den
abbrev Sta:=ai.den
abbrev Cel:=aa.den
abbrev Mdl:=aO.den
def zv:Val:=(0,false,[],0,())
def ahd (i f i2 g:Int):Bool:=i<i2||i=i2&&f<g
def ahB (l:List Alt):Bool:=decide (l.length≤1048576)
def stG (s:Sta):Bool:=s.1.length≤1048576&&s.1.all λx=>!x.2.2.1.isEmpty&&ahB x.2.2.1
def vg (x:Slt):Val:=match x.2.2.1 with|a::_=>a.2.1|[]=>zv
def eX (s:Sta):Mdl:=((s.1.filter λx=>!eqD aJ (vg x) zv).map λx=>(x.1,x.2.1,vg x,()),())
def kM (a b:Slt):Prop:=ahd a.1 a.2.1 b.1 b.2.1=true
instance slotDec (a b:Slt):Decidable (kM a b):=inferInstanceAs (Decidable (_=true))
def af8 (l:List Slt):Bool:=decide (l.Pairwise kM)
def b9 (s:Sta)(_ _:Int):Bool:=s.1.length≤1048576&&af8 s.1
def before (s:Sta)(id field:Int):List Slt:=s.1.takeWhile λx=>ahd x.1 x.2.1 id field
def nW (s:Sta)(id field:Int):List Slt:=s.1.dropWhile λx=>ahd x.1 x.2.1 id field
def af (s:Sta)(id field:Int):Int:=((before s id field).length:Int)
def iV (s:Sta)(id field:Int):List Alt:=match nW s id field with
 |x::_=>if x.1=id∧x.2.1=field then x.2.2.1 else[]
 |[]=>[]
def Zj (id field:Int):List Slt→List Slt
 |x::r=>if x.1=id∧x.2.1=field then r else x::r
 |[]=>[]
def pG (s:Sta)(id field:Int)(l:List Alt):Sta:=(before s id field++(if l.isEmpty then[]else[(id,field,l,())])++Zj id field (nW s id field),())
def aei (s:Sta)(id field:Int)(_:List Alt):Bool:=b9 s id field
open Go Tryz
def LB:TabL:={
 ty:=[(3,tInt),(4,.bool),(9,.str),(36,(.slice aa)),(42,aJ),(44,aa),(87,aO),(94,(.slice ah)),(96,ai),(144,(.slice eO)),(146,ah),(168,eO)],
 cells:=[(3,1),(4,1),(9,1),(36,1),(42,4),(44,6),(87,1),(94,1),(96,1),(144,1),(146,3),(168,5)],
 offs:=[((42,0),0),((42,1),1),((42,2),2),((42,3),3),((44,0),0),((44,1),1),((44,2),2),((87,0),0),((96,0),0),((146,0),0),((146,1),1),((146,2),2),((168,0),0),((168,1),1)],
 one:=[],
 elem:=[(36,44),(94,146),(144,168)] }
def zA:TabOk prog LB.tab:=TabL.ok Φ
def vI (id:Int)(field:Int)(g:Int)(f:Int):Bool:=cond (id<g) true (cond (id=g) (decide (field<f)) false)
def EU:List (Nat×Ent):=[]
def age:Par:=⟨LB.tab,az EU,λ_=>look [],λ_=>look []⟩
def agd:Code:=(f145.body).getD .skip
def WX:Fi:=⟨age,22,[.tmp 8],agd⟩
def C7 (g:Nat)(id:Int)(field:Int)(j:Int)(f:Int):Option AV:=uv fi0 hs0 0 WX [.bool] g [.val tInt id,.val tInt field,.val tInt j,.val tInt f]
def ZI (j:Nat)(id:Int)(field:Int)(f:Int)(g:Int):C7 j id field f g=cond (aS (!id<f) (!id<f)&&(aS (!id<f) (!id<f)&&true)&&true) (cond (aS (!id<f) (!id<f)&&true&&true) (cond (aS (!id<f&&id=f) (!id<f&&id=f)&&(aS (!id<f&&id=f) (!id<f&&id=f)&&true)&&true) (cond (aS (!id<f) (!id<f)&&aS (!id<f) (aS (!id<f&&id=f) (!id<f&&id=f)&&true)) (cond (aS (!id<f) (!id<f)) (some (.val .bool (cond (id<f) true (cond (id=f) (decide (field<g)) false)))) none) none) none) none) none:=Φ
def adU (j:Nat)(id:Int)(field:Int)(g:Int)(f:Int):C7 j id field g f=some (.val .bool (cond (id<g) true (cond (id=g) (decide (field<f)) false))):=by simpa only[aF,cD,m?,b?,I',H_,s?,q?,o?,u?,Int.reduceLE,Int.reduceEq,Int.reduceLT,Q']using ZI j id field g f
def adT:dI prog EU→FiOk prog 145 (WX):=λh=>⟨⟨f145,func145,rfl,Φ,Φ,Φ⟩,zA,ag h⟩
def xt:Ent:=sp4 tInt tInt tInt tInt (λ_ _ _ _=>true) λl j g f=>.val .bool (vI l j g f)
def ZJ (C:dI prog EU)(h:∀(l:Int) (j:Int) (g:Int) (f:Int),∃p,C7 p l j g f=some (.val .bool (vI l j g f))):ar prog 145 xt:=aau λl j g f _=>(let ⟨_,r⟩:=h l j g f;bF follows (λ_ _ h=>by cases h) kP (adT C) (ds:=[⟨_,l⟩,⟨_,j⟩,⟨_,g⟩,⟨_,f⟩]) r)
def ZK (j:dI prog EU):ar prog 145 xt:=ZJ j (λid field g f=>⟨0,by rw[adU];first|rfl|(simp only[rx];rfl)⟩)
def mQ:MS:=⟨3,[(0,[.dat (.slice ah)]),(1,[.own aa 44]),(2,[.own aa 44])],[(1,.keep),(2,.keep),(3,.keep),(4,.dat tInt)]⟩
def GW:List (Nat×Ent):=[]
def mR:Par:=⟨LB.tab,az GW,λ_=>look [(4,mQ)],λ_=>look [(3,mQ)]⟩
def AC:Code:=(f94.body).getD .skip
def PS:Fi:=⟨mR,41,[.cell 2 87],AC⟩
def J9:Code:=sub AC [1,1,0,1,0,0]
def CA:Code:=sub AC [1,1,1]
def Yt:Code:=sub AC [1,1,0,1,0,0,1,1]
def GX:KT:=bg LB.tab [.cell 2 87] [aO]
def wJ (f:Nat)(n:Nat)(s:ai.den)(i:Int)(g:(List aa.den)):Option AV:=aE 0 mQ (λj k=>exec (bn fi0 hs0 f 0) mR 0 f J9 j k) (aj 0 (aL 0 none (λj k=>exec (bn fi0 hs0 f 0) mR 0 f CA j k) GX)) n ⟨mkE 41 [(1,.box 0 0),(2,.box 1 0),(3,.box 2 0),(4,.val tInt i)],mkH 5 [(0,.box [.val (.slice ah) s.1]),(1,.box [.own 3 0 aa []]),(2,.box [.own 4 0 aa g]),(3,.row aa 44 0),(4,.row aa 44 0)]⟩
def Cz (f l:Nat)(i:Int)(s:ai.den)(j:(List aa.den)):Option AV:=exec (bn fi0 hs0 f 0) mR 0 f Yt ⟨mkE 41 [(1,.box 0 0),(2,.box 1 0),(3,.box 2 0),(4,.val tInt i)],mkH 5 [(0,.box [.val (.slice ah) s.1]),(1,.box [.own 3 0 aa []]),(2,.box [.own 4 0 aa j]),(3,.row aa 44 0),(4,.row aa 44 0)]⟩ (V6 0 mQ (aE 0 mQ (λg k=>exec (bn fi0 hs0 f 0) mR 0 f J9 g k) (aj 0 (aL 0 none (λg k=>exec (bn fi0 hs0 f 0) mR 0 f CA g k) GX)) l) (aj 0 (aL 0 none (λg k=>exec (bn fi0 hs0 f 0) mR 0 f CA g k) GX)))
def yI (f:Nat)(s:ai.den):Option AV:=uv fi0 hs0 0 PS [aO] f [.val ai s]
def Az (g j:Nat)(s:ai.den)(i:Int)(f:(List aa.den)):wJ g (j+1) s i f=cond (i<(s.1.length:Int)) (cond (0≤i&&i<(s.1.length:Int)) (cond (0≤(0:Int)&&0<((ix ah s.1 i).2.2.1.length:Int)) (cond (!eqD aJ (ix eO (ix ah s.1 i).2.2.1 0).2.1 (0,false,[],0,())) (cond (0≤(0:Int)&&0<((ix ah s.1 i).2.2.1.length:Int)) (cond (List.length f+List.length ([((ix ah s.1 i).1,(ix ah s.1 i).2.1,(ix eO (ix ah s.1 i).2.2.1 0).2.1,())]:List aa.den)≤LIM) (Cz g j i s (f++[((ix ah s.1 i).1,(ix ah s.1 i).2.1,(ix eO (ix ah s.1 i).2.2.1 0).2.1,())])) none) none) (Cz g j i s f)) none) none) (some (.val aO (f,()))):=Φ
def AA (f j:Nat)(i:Int)(s:ai.den)(g:(List aa.den)):Cz f j i s g=(wJ f j s (w64 (i+1)) g):=Φ
def Ys (f:Nat)(s:ai.den):yI f s=(wJ f f s 0 []):=Φ
def Yr:dI prog GW→FiOk prog 94 (PS):=λh=>⟨⟨f94,func94,rfl,Φ,Φ,Φ⟩,zA,ag h⟩
def GV:Ent:=sp1 ai (λf=>stG f) λf=>.val aO (eX f)
def TD (p:dI prog GW)(h:∀(f:ai.den),stG f=true→∃g,yI g f=some (.val aO (eX f))):ar prog 94 GV:=uh λf j=>(let ⟨_,l⟩:=h f j;bF follows (λ_ _ h=>by cases h) kP (Yr p) (ds:=[⟨_,f⟩]) l)
def Gk:MS:=⟨1,[(0,[.dat (.slice ah)])],[(1,.dat tInt),(2,.dat tInt),(3,.keep),(7,.dat tInt),(8,.dat tInt)]⟩
def Gn:List (Nat×Ent):=[(145,xt)]
def Gp:Par:=⟨LB.tab,az Gn,λ_=>look [],λ_=>look [(2,Gk)]⟩
def Gm:Code:=(f182.body).getD .skip
def Pp:Fi:=⟨Gp,39,[.tmp 6],Gm⟩
def X7:Code:=sub Gm [1,1,0,0,0]
def X6:Code:=sub Gm [1,1,1]
def aa2:KT:=bg LB.tab [.tmp 6] [tInt]
def gT (f:Nat)(n:Nat)(id:Int)(field:Int)(s:ai.den)(j:Int)(l:Int):Option AV:=aE 0 Gk (λg k=>exec (bn fi0 hs0 f 0) Gp 0 f X7 g k) (aj 0 (aL 0 none (λg k=>exec (bn fi0 hs0 f 0) Gp 0 f X6 g k) aa2)) n ⟨mkE 39 [(1,.val tInt id),(2,.val tInt field),(3,.box 0 0),(7,.val tInt j),(8,.val tInt l)],mkH 1 [(0,.box [.val (.slice ah) s.1])]⟩
def yE (f:Nat)(s:ai.den)(id:Int)(field:Int):Option AV:=uv fi0 hs0 0 Pp [tInt] f [.val ai s,.val tInt id,.val tInt field]
def IC (j l:Nat)(id:Int)(field:Int)(s:ai.den)(f:Int)(g:Int):gT j (l+1) id field s f g=cond (f<g) (cond (!(2:Int)=0) (cond (0≤w64 (Int.tdiv (w64 (f+g)) 2)&&w64 (Int.tdiv (w64 (f+g)) 2)<(s.1.length:Int)) (cond (0≤w64 (Int.tdiv (w64 (f+g)) 2)&&w64 (Int.tdiv (w64 (f+g)) 2)<(s.1.length:Int)) (cond (vI (ix ah s.1 (w64 (Int.tdiv (w64 (f+g)) 2))).1 (ix ah s.1 (w64 (Int.tdiv (w64 (f+g)) 2))).2.1 id field) (gT j l id field s (w64 (w64 (Int.tdiv (w64 (f+g)) 2)+1)) g) (gT j l id field s f (w64 (Int.tdiv (w64 (f+g)) 2)))) none) none) none) (some (.val tInt f)):=Φ
def Mh (f l:Nat)(id:Int)(field:Int)(s:ai.den)(g:Int)(j:Int):gT f (l+1) id field s g j=cond (g<j) (cond (0≤w64 (Int.tdiv (w64 (g+j)) 2)&&w64 (Int.tdiv (w64 (g+j)) 2)<(s.1.length:Int)) (cond (0≤w64 (Int.tdiv (w64 (g+j)) 2)&&w64 (Int.tdiv (w64 (g+j)) 2)<(s.1.length:Int)) (cond (vI (ix ah s.1 (w64 (Int.tdiv (w64 (g+j)) 2))).1 (ix ah s.1 (w64 (Int.tdiv (w64 (g+j)) 2))).2.1 id field) (gT f l id field s (w64 (w64 (Int.tdiv (w64 (g+j)) 2)+1)) j) (gT f l id field s g (w64 (Int.tdiv (w64 (g+j)) 2)))) none) none) (some (.val tInt g)):=by simpa only[aF,cD,m?,b?,I',H_,s?,q?,o?,u?,Int.reduceLE,Int.reduceEq,Int.reduceLT,Q']using IC f l id field s g j
def X5 (f:Nat)(s:ai.den)(id:Int)(field:Int):yE f s id field=(gT f f id field s 0 (s.1.length:Int)):=Φ
def X4:dI prog Gn→FiOk prog 182 (Pp):=λh=>⟨⟨f182,func182,rfl,Φ,Φ,Φ⟩,zA,ag h⟩
def Ak:Ent:=sp3 ai tInt tInt (λj g f=>b9 j g f) λj g f=>.val tInt (af j g f)
def Tg (C:dI prog Gn)(h:∀(j:ai.den) (g:Int) (f:Int),b9 j g f=true→∃l,yE l j g f=some (.val tInt (af j g f))):ar prog 182 Ak:=aav λj g f p=>(let ⟨_,r⟩:=h j g f p;bF follows (λ_ _ h=>by cases h) kP (X4 C) (ds:=[⟨_,j⟩,⟨_,g⟩,⟨_,f⟩]) r)
def Nu:List (Nat×Ent):=[(182,Ak)]
def aga:Par:=⟨LB.tab,az Nu,λ_=>look [],λ_=>look []⟩
def af9:Code:=(f141.body).getD .skip
def WV:Fi:=⟨aga,43,[.tmp 6],af9⟩
def xq (f:Nat)(s:ai.den)(id:Int)(field:Int):Option AV:=uv fi0 hs0 0 WV [.slice eO] f [.val ai s,.val tInt id,.val tInt field]
def ZF (f:Nat)(s:ai.den)(id:Int)(field:Int):xq f s id field=cond (b9 s id field) (cond (aS (decide (af s id field<(s.1.length:Int))) (decide (af s id field<(s.1.length:Int)))&&true&&true) (cond (aS (decide (af s id field<(s.1.length:Int))) (decide (af s id field<(s.1.length:Int)))&&(aS (decide (af s id field<(s.1.length:Int))) (decide (af s id field<(s.1.length:Int)))&&true)&&aS (decide (af s id field<(s.1.length:Int))) (0≤af s id field&&af s id field<(s.1.length:Int))) (cond (aS (decide (af s id field<(s.1.length:Int))) (decide (af s id field<(s.1.length:Int)))&&true&&true) (cond (aS (decide (af s id field<(s.1.length:Int))) (decide (af s id field<(s.1.length:Int)))&&true&&true) (cond (aS (decide (af s id field<(s.1.length:Int))) (decide (af s id field<(s.1.length:Int)))&&(aS (decide (af s id field<(s.1.length:Int))) (decide (af s id field<(s.1.length:Int)))&&true)&&true) (cond (aS (decide (af s id field<(s.1.length:Int))) (decide (af s id field<(s.1.length:Int)))&&true) (cond (aS (cond (af s id field<(s.1.length:Int)) (decide ((ix ah s.1 (af s id field)).1=id)) false) (cond (af s id field<(s.1.length:Int)) (decide ((ix ah s.1 (af s id field)).1=id)) false)&&true&&true) (cond (aS (cond (af s id field<(s.1.length:Int)) (decide ((ix ah s.1 (af s id field)).1=id)) false) (cond (af s id field<(s.1.length:Int)) (decide ((ix ah s.1 (af s id field)).1=id)) false)&&(aS (cond (af s id field<(s.1.length:Int)) (decide ((ix ah s.1 (af s id field)).1=id)) false) (cond (af s id field<(s.1.length:Int)) (decide ((ix ah s.1 (af s id field)).1=id)) false)&&true)&&aS (cond (af s id field<(s.1.length:Int)) (decide ((ix ah s.1 (af s id field)).1=id)) false) (0≤af s id field&&af s id field<(s.1.length:Int))) (cond (aS (cond (af s id field<(s.1.length:Int)) (decide ((ix ah s.1 (af s id field)).1=id)) false) (cond (af s id field<(s.1.length:Int)) (decide ((ix ah s.1 (af s id field)).1=id)) false)&&true&&true) (cond (aS (cond (af s id field<(s.1.length:Int)) (decide ((ix ah s.1 (af s id field)).1=id)) false) (cond (af s id field<(s.1.length:Int)) (decide ((ix ah s.1 (af s id field)).1=id)) false)&&true&&true) (cond (aS (cond (af s id field<(s.1.length:Int)) (decide ((ix ah s.1 (af s id field)).1=id)) false) (cond (af s id field<(s.1.length:Int)) (decide ((ix ah s.1 (af s id field)).1=id)) false)&&(aS (cond (af s id field<(s.1.length:Int)) (decide ((ix ah s.1 (af s id field)).1=id)) false) (cond (af s id field<(s.1.length:Int)) (decide ((ix ah s.1 (af s id field)).1=id)) false)&&true)&&true) (cond (aS (cond (af s id field<(s.1.length:Int)) (decide ((ix ah s.1 (af s id field)).1=id)) false) (cond (af s id field<(s.1.length:Int)) (decide ((ix ah s.1 (af s id field)).1=id)) false)&&true) (cond (cond (cond (af s id field<(s.1.length:Int)) ((ix ah s.1 (af s id field)).1=id) false) ((ix ah s.1 (af s id field)).2.1=field) false) (cond (0≤af s id field&&af s id field<(s.1.length:Int)) (some (.val (.slice eO) (ix ah s.1 (af s id field)).2.2.1)) none) (some (.val (.slice eO) []))) none) none) none) none) none) none) none) none) none) none) none) none) none:=Φ
def adJ (f:Nat)(s:ai.den)(id:Int)(field:Int):xq f s id field=cond (b9 s id field) (cond (aS (decide (af s id field<(s.1.length:Int))) (0≤af s id field&&af s id field<(s.1.length:Int))) (cond (aS (cond (af s id field<(s.1.length:Int)) (decide ((ix ah s.1 (af s id field)).1=id)) false) (0≤af s id field&&af s id field<(s.1.length:Int))) (cond (cond (cond (af s id field<(s.1.length:Int)) ((ix ah s.1 (af s id field)).1=id) false) ((ix ah s.1 (af s id field)).2.1=field) false) (cond (0≤af s id field&&af s id field<(s.1.length:Int)) (some (.val (.slice eO) (ix ah s.1 (af s id field)).2.2.1)) none) (some (.val (.slice eO) []))) none) none) none:=by simpa only[aF,cD,m?,b?,I',H_,s?,q?,o?,u?,Int.reduceLE,Int.reduceEq,Int.reduceLT,Q']using ZF f s id field
def adI:dI prog Nu→FiOk prog 141 (WV):=λh=>⟨⟨f141,func141,rfl,Φ,Φ,Φ⟩,zA,ag h⟩
def ET:Ent:=sp3 ai tInt tInt (λj g f=>b9 j g f) λj g f=>.val (.slice eO) (iV j g f)
def ZG (C:dI prog Nu)(h:∀(j:ai.den) (g:Int) (f:Int),b9 j g f=true→∃l,xq l j g f=some (.val (.slice eO) (iV j g f))):ar prog 141 ET:=aav λj g f p=>(let ⟨_,r⟩:=h j g f p;bF follows (λ_ _ h=>by cases h) kP (adI C) (ds:=[⟨_,j⟩,⟨_,g⟩,⟨_,f⟩]) r)
def aaC:MS:=⟨2,[(0,[.dat (.slice ah)]),(1,[.own ah 146])],[(1,.dat tInt),(2,.dat tInt),(4,.keep),(8,.keep),(9,.dat tInt),(10,.own ah 146)]⟩
def aaB:MS:=⟨2,[(0,[.dat (.slice ah)]),(1,[.own ah 146])],[(4,.keep),(8,.keep),(9,.dat tInt),(10,.own ah 146)]⟩
def SG:List (Nat×Ent):=[(182,Ak)]
def SH:Par:=⟨LB.tab,az SG,λ_=>look [(5,aaC),(7,aaB)],λ_=>look []⟩
def SF:Code:=(f142.body).getD .skip
def aaF:Fi:=⟨SH,65,[.cell 8 96],SF⟩
def aeg:Code:=sub SF [1,1,1,1]
def aef:Code:=sub SF [1,1,1,1,1]
def aaE:KT:=bg LB.tab [.cell 8 96] [ai]
def zK (f:Nat)(id:Int)(field:Int)(s:ai.den)(out:(List ah.den)):Option AV:=exec (bn fi0 hs0 f 0) SH 0 f aeg ⟨mkE 65 [(1,.val tInt id),(2,.val tInt field),(4,.box 0 0),(8,.box 1 0),(9,.val tInt (af s id field)),(10,.own 3 0 ah out)],mkH 4 [(0,.box [.val (.slice ah) s.1]),(1,.box [.own 2 0 ah []]),(2,.row ah 146 0),(3,.row ah 146 0)]⟩ aaE
def wi (f:Nat)(out:(List ah.den))(s:ai.den)(g:Int):Option AV:=exec (bn fi0 hs0 f 0) SH 0 f aef ⟨mkE 65 [(4,.box 0 0),(8,.box 1 0),(9,.val tInt g),(10,.own 3 0 ah out)],mkH 4 [(0,.box [.val (.slice ah) s.1]),(1,.box [.own 2 0 ah []]),(2,.row ah 146 0),(3,.row ah 146 0)]⟩ aaE
def FD (f:Nat)(s:ai.den)(id:Int)(field:Int)(l:(List eO.den)):Option AV:=uv fi0 hs0 0 aaF [ai] f [.val ai s,.val tInt id,.val tInt field,.val (.slice eO) l]
def OK (f:Nat)(id:Int)(field:Int)(s:ai.den)(out:(List ah.den)):zK f id field s out=cond (aS (decide (af s id field<(s.1.length:Int))) (decide (af s id field<(s.1.length:Int)))&&true&&true) (cond (aS (decide (af s id field<(s.1.length:Int))) (decide (af s id field<(s.1.length:Int)))&&(aS (decide (af s id field<(s.1.length:Int))) (decide (af s id field<(s.1.length:Int)))&&true)&&aS (decide (af s id field<(s.1.length:Int))) (0≤af s id field&&af s id field<(s.1.length:Int))) (cond (aS (decide (af s id field<(s.1.length:Int))) (decide (af s id field<(s.1.length:Int)))&&true&&true) (cond (aS (decide (af s id field<(s.1.length:Int))) (decide (af s id field<(s.1.length:Int)))&&true&&true) (cond (aS (decide (af s id field<(s.1.length:Int))) (decide (af s id field<(s.1.length:Int)))&&(aS (decide (af s id field<(s.1.length:Int))) (decide (af s id field<(s.1.length:Int)))&&true)&&true) (cond (aS (decide (af s id field<(s.1.length:Int))) (decide (af s id field<(s.1.length:Int)))&&true) (cond (aS (cond (af s id field<(s.1.length:Int)) (decide ((ix ah s.1 (af s id field)).1=id)) false) (cond (af s id field<(s.1.length:Int)) (decide ((ix ah s.1 (af s id field)).1=id)) false)&&true&&true) (cond (aS (cond (af s id field<(s.1.length:Int)) (decide ((ix ah s.1 (af s id field)).1=id)) false) (cond (af s id field<(s.1.length:Int)) (decide ((ix ah s.1 (af s id field)).1=id)) false)&&(aS (cond (af s id field<(s.1.length:Int)) (decide ((ix ah s.1 (af s id field)).1=id)) false) (cond (af s id field<(s.1.length:Int)) (decide ((ix ah s.1 (af s id field)).1=id)) false)&&true)&&aS (cond (af s id field<(s.1.length:Int)) (decide ((ix ah s.1 (af s id field)).1=id)) false) (0≤af s id field&&af s id field<(s.1.length:Int))) (cond (aS (cond (af s id field<(s.1.length:Int)) (decide ((ix ah s.1 (af s id field)).1=id)) false) (cond (af s id field<(s.1.length:Int)) (decide ((ix ah s.1 (af s id field)).1=id)) false)&&true&&true) (cond (aS (cond (af s id field<(s.1.length:Int)) (decide ((ix ah s.1 (af s id field)).1=id)) false) (cond (af s id field<(s.1.length:Int)) (decide ((ix ah s.1 (af s id field)).1=id)) false)&&true&&true) (cond (aS (cond (af s id field<(s.1.length:Int)) (decide ((ix ah s.1 (af s id field)).1=id)) false) (cond (af s id field<(s.1.length:Int)) (decide ((ix ah s.1 (af s id field)).1=id)) false)&&(aS (cond (af s id field<(s.1.length:Int)) (decide ((ix ah s.1 (af s id field)).1=id)) false) (cond (af s id field<(s.1.length:Int)) (decide ((ix ah s.1 (af s id field)).1=id)) false)&&true)&&true) (cond (aS (cond (af s id field<(s.1.length:Int)) (decide ((ix ah s.1 (af s id field)).1=id)) false) (cond (af s id field<(s.1.length:Int)) (decide ((ix ah s.1 (af s id field)).1=id)) false)&&true) (cond (cond (cond (af s id field<(s.1.length:Int)) ((ix ah s.1 (af s id field)).1=id) false) ((ix ah s.1 (af s id field)).2.1=field) false) (wi f out s (w64 (af s id field+1))) (wi f out s (af s id field))) none) none) none) none) none) none) none) none) none) none) none) none:=Φ
def SD (f:Nat)(id:Int)(field:Int)(s:ai.den)(out:(List ah.den)):zK f id field s out=cond (aS (decide (af s id field<(s.1.length:Int))) (0≤af s id field&&af s id field<(s.1.length:Int))) (cond (aS (cond (af s id field<(s.1.length:Int)) (decide ((ix ah s.1 (af s id field)).1=id)) false) (0≤af s id field&&af s id field<(s.1.length:Int))) (cond (cond (cond (af s id field<(s.1.length:Int)) ((ix ah s.1 (af s id field)).1=id) false) ((ix ah s.1 (af s id field)).2.1=field) false) (wi f out s (w64 (af s id field+1))) (wi f out s (af s id field))) none) none:=by simpa only[aF,cD,m?,b?,I',H_,s?,q?,o?,u?,Int.reduceLE,Int.reduceEq,Int.reduceLT,Q']using OK f id field s out
def SC (g:Nat)(out:(List ah.den))(s:ai.den)(f:Int):wi g out s f=cond (0≤f&&f≤(s.1.length:Int)) (cond (List.length out+List.length ((List.take (List.length s.1) s.1).drop (Int.toNat f))≤LIM) (some (.val ai (out++(List.take (List.length s.1) s.1).drop (Int.toNat f),()))) none) none:=Φ
def aee (f:Nat)(s:ai.den)(id:Int)(field:Int)(l:(List eO.den)):FD f s id field l=cond (b9 s id field) (cond (0≤af s id field&&af s id field≤(s.1.length:Int)) (cond (List.length ([]:List ah.den)+List.length ((List.take (Int.toNat (af s id field)) s.1).drop 0)≤LIM) (cond ((l.length:Int)>0) (cond (List.length ([]++(List.take (Int.toNat (af s id field)) s.1).drop 0)+List.length ([(id,field,l,())]:List ah.den)≤LIM) (zK f id field s ([]++(List.take (Int.toNat (af s id field)) s.1).drop 0++[(id,field,l,())])) none) (zK f id field s ([]++(List.take (Int.toNat (af s id field)) s.1).drop 0))) none) none) none:=Φ
def aed:dI prog SG→FiOk prog 142 (aaF):=λh=>⟨⟨f142,func142,rfl,Φ,Φ,Φ⟩,zA,ag h⟩
def SE:Ent:=sp4 ai tInt tInt (.slice eO) (λl j g f=>aei l j g f) λl j g f=>.val ai (pG l j g f)
def aaD (J:dI prog SG)(h:∀(l:ai.den) (j:Int) (g:Int) (f:(List eO.den)),aei l j g f=true→∃p,FD p l j g f=some (.val ai (pG l j g f))):ar prog 142 SE:=aau λl j g f r=>(let ⟨_,C⟩:=h l j g f r;bF follows (λ_ _ h=>by cases h) kP (aed J) (ds:=[⟨_,l⟩,⟨_,j⟩,⟨_,g⟩,⟨_,f⟩]) C)
def Cc {n:Int}(g : -9223372036854775808≤n)(f:n<9223372036854775808):w64 n=n:=by unfold w64;simp[IntKind.wrap,IntKind.bits,IntKind.signed];omega
def adZ {n:Nat}(h:n<9223372036854775808):w64 (n:Int)=n:=Cc Ω Ω
variable{t:Ty}{p:Prop}{s:Sta}
def bt (p:List t.den)(c:t.den)(r:List t.den):ix t (p++c::r) (p.length:Int)=c:=by simp[ix]
def MD (p:List t.den)(c:t.den)(r:List t.den):decide ((p.length:Int)<((p++c::r).length:Int))=true:=by simp;omega
def TN (p:List t.den):decide ((p.length:Int)<((p++[]).length:Int))=false:=by simp
def abm (p:List t.den):decide (0≤(p.length:Int))=true:=by simp
def Tv (p:List t.den)(c:t.den)(h:p.length<9223372036854775807):w64 ((p.length:Int)+1)=((p++[c]).length:Int):=by rw[Cc Ω Ω];simp
def aio (p:List t.den)(c:t.den)(r:List t.den):p++c::r=(p++[c])++r:=by simp
def dt [Decidable p](h:p):decide p=true:=L_ h
def df [Decidable p](h:¬p):decide p=false:=h? h
def xu (i f i2 g:Int):vI i f i2 g=ahd i f i2 g:=by unfold vI ahd;by_cases p:i<i2 <;> by_cases l:i=i2 <;> by_cases j:f<g <;> simp[p,l,j]
def Bw:∀(t:Ty) (x:t.den),t.flatEq=true→eqD t x x=true
 |.int _,x,_=>by simp[eqD]
 |.bool,x,_=>by simp[eqD]
 |.str,x,_=>by simp[eqD]
 |.unit,_,_=>rfl
 |.cons a b,x,h=>by simp[Ty.flatEq]at h;simp[eqD,Bw a x.1 h.1.1,Bw b x.2 h.1.2]
 |.slice _,_,h=>by simp[Ty.flatEq]at h
 |.tree,_,h=>by simp[Ty.flatEq]at h
def HJ:∀(t:Ty) (x y:t.den),eqD t x y=true→x=y
 |.int _,x,y,h=>by simpa[eqD]using h
 |.bool,x,y,h=>by simpa[eqD]using h
 |.str,x,y,h=>by simpa[eqD]using h
 |.unit,_,_,_=>rfl
 |.cons a b,x,y,h=>by simp[eqD]at h;exact Prod.ext (HJ a _ _ h.1) (HJ b _ _ h.2)
 |.slice _,_,_,h=>by simp[eqD]at h
 |.tree,_,_,h=>by simp[eqD]at h
def afb (c:t.den)(r:List t.den):ix t (c::r) 0=c:=rfl
def TC (x:Slt)(r:List Slt):(eX (x::r,())).1=(bif !eqD aJ (vg x) zv then[(x.1,x.2.1,vg x,())]else[])++(eX (r,())).1:=by simp[eX,List.filter_cons];cases eqD aJ (vg x) zv <;> simp
def XA (h:stG s=true):s.1.length≤1048576∧∀x∈s.1,x.2.2.1≠[]∧x.2.2.1.length≤1048576:=by simp only[stG,ι,ρ,G']at h;refine⟨h.1,λx f=>?_⟩;have:=h.2 x f;simp[ahB]at this;exact⟨λe=>by rw[e]at this;simp at this,this.2⟩
def PR (C:Nat)(u:Unit):∀(n:Nat) (r p:List Slt) (f:List Cel),r.length<n→(p++r).length≤1048576→(∀x∈r,x.2.2.1≠[])→f.length≤p.length →
  wJ C n (p++r,u) (p.length:Int) f=some (.val aO (f++(eX (r,())).1,())):=by
 intro n;induction n with
 |zero=>intro r p f h;omega
 |succ n T=>
  intro r p f h hl j ha;cases r with
  |nil=>rw[Az];dsimp only;rw[TN (t:=ah)];simp[eX]
  |cons c r=>
   obtain⟨ci,R,J,P⟩:=c;cases J with
   |nil=>exact absurd rfl (j _ (X' ..))
   |cons a J=>
    have hl':p.length+(r.length+1)≤1048576:=by simpa using hl
    have next:=λg (h':g.length≤p.length+1)=>T r (p++[(ci,R,a::J,P)]) g (by simp at h;omega) Ξ (λx U=>j x (F' _ U)) (by simpa using h')
    rw[←aio (t:=ah),←Tv (t:=ah) p (ci,R,a::J,P) Ω]at next
    rw[Az];dsimp only;rw[bt (t:=ah),MD (t:=ah),abm (t:=ah),AA,AA,next _ Ξ,next _ Ω];dsimp only;rw[afb (t:=eO),TC];have l:f.length+1≤LIM:=by simp[LIM];omega
    have hq:decide ((0:Int)<((a::J).length:Int))=true:=dt Ψ;rw[hq];simp[vg,zv];cases eqD aJ a.2.1 (0,false,[],0,()) <;> simp[l]
def MA (s:Sta)(h:stG s=true):∃f,yI f s=some (.val aO (eX s)):=by obtain⟨p,j⟩:=XA h;obtain⟨l,u⟩:=s;refine⟨l.length+1, ?_⟩;rw[Ys];exact PR _ u (l.length+1) l [] [] Ω p (λx g=>(j x g).1) Ψ
def lE {i f j g:Int}:ahd i f j g=true↔i<j∨(i=j∧f<g):=by simp[ahd]
def air {i f j g:Int}:ahd i f j g=false ↔ ¬(i<j∨(i=j∧f<g)):=by rw[←lE];simp
def lZ {i f j g k h:Int}(p:ahd i f j g=true)(l:ahd j g k h=true):ahd i f k h=true:=by rw[lE]at *;omega
def WY {i f j g:Int}(h:ahd i f j g=false)(l:¬(i=j∧f=g)):ahd j g i f=true:=by rw[air]at h;rw[lE];omega
def aa1 {L:List Slt}(J:L.Pairwise kM)(id field:Int):∀m,m<L.length→ahd (L.getD m (zero ah)).1 (L.getD m (zero ah)).2.1 id field=decide (m<(L.takeWhile (λx=>ahd x.1 x.2.1 id field)).length):=by
 induction L with
 |nil=>intro m j;simp at j
 |cons x L r=>
  obtain⟨R,P⟩:=q_.1 J;intro m j;rw[List.takeWhile_cons];cases l:ahd x.1 x.2.1 id field with
  |true=>
   cases m with
   |zero=>simp[List.getD,l]
   |succ m =>have:=r P m (by simpa using j);simpa[List.getD]using this
  |false=>
   cases m with
   |zero=>simp[List.getD,l]
   |succ m=>
    have g:m<L.length:=by simpa using j
    have f:L.getD m (zero ah)∈L:=by simp only[List.getD,ε g,ak2];exact w_ g
    have p:=R _ f;have e:(x::L).getD (m+1) (zero ah)=L.getD m (zero ah):=by simp[List.getD]
    rw[e];cases C:ahd (L.getD m (zero ah)).1 (L.getD m (zero ah)).2.1 id field with
    |false=>simp
    |true =>have:=lZ p C;rw[l]at this;cases this
def Tf (j:Nat)(id field:Int)(L:List Slt)(u:Unit)(hl:L.length≤1048576)(r:L.Pairwise kM):∀(n f g:Nat),g-f<n→f≤(L.takeWhile (λx=>ahd x.1 x.2.1 id field)).length→(L.takeWhile (λx=>ahd x.1 x.2.1 id field)).length≤g→g≤L.length →
  gT j n id field (L,u) (f:Int) (g:Int)=some (.val tInt ((L.takeWhile (λx=>ahd x.1 x.2.1 id field)).length:Int)):=by
 intro n;induction n with
 |zero=>intro f g h;omega
 |succ n l=>
  intro f g h U T R;rw[Mh];dsimp only;by_cases P:f<g
  ·have e1:w64 ((f:Int)+(g:Int))=((f+g:Nat):Int):=by rw[Cc Ω Ω];simp
   have e2:Int.tdiv ((f+g:Nat):Int) 2=(((f+g)/2:Nat):Int):=rfl;have e3:w64 (((f+g)/2:Nat):Int)=(((f+g)/2:Nat):Int):=adZ Ω;rw[e1,e2,e3];generalize hm:(f+g)/2=m;have J:f≤m:=Ω
   have C:m<g:=Ω
   have e4:w64 ((m:Int)+1)=((m+1:Nat):Int):=by rw[Cc Ω Ω];simp
   have e5:ix ah L (m:Int)=L.getD m (zero ah):=by simp[ix]
   rw[e4,e5,xu,aa1 r id field m Ω];have c1:decide ((f:Int)<(g:Int))=true:=dt Ω;have c2:decide ((0:Int)≤(m:Int))=true:=dt Ω;have c3:decide ((m:Int)<(L.length:Int))=true:=dt Ω;rw[c1,c2,c3];simp;by_cases p:m<(L.takeWhile (λx=>ahd x.1 x.2.1 id field)).length
   ·rw[dt p,I'];exact l (m+1) g Ω Ω T R
   ·rw[df p,H_];exact l f m Ω U Ω Ω
  ·have c1:decide ((f:Int)<(g:Int))=false:=df Ω;have e:(L.takeWhile (λx=>ahd x.1 x.2.1 id field)).length=f:=Ω
   rw[c1,H_,e]
def Al {id field:Int}(h:b9 s id field=true):s.1.length≤1048576∧s.1.Pairwise kM:=by simpa[b9,af8]using h
def Mg (s:Sta)(id field:Int)(h:b9 s id field=true):∃f,yE f s id field=some (.val tInt (af s id field)):=by obtain⟨j,g⟩:=Al h;obtain⟨l,u⟩:=s;refine⟨l.length+1, ?_⟩;rw[X5];exact Tf _ id field l u j g (l.length+1) 0 l.length Ω (i_ _) (List.takeWhile_sublist _).length_le (ζ _)
def El (s:Sta)(id field:Int):s.1=before s id field++nW s id field:=(List.takeWhile_append_dropWhile).symm
def RO (s:Sta)(id field:Int)(h:b9 s id field=true):∃f,xq f s id field=some (.val (.slice eO) (iV s id field)):=by
 refine⟨0, ?_⟩;rw[adJ,h];have g:=El s id field;unfold iV af;generalize before s id field=p at *;cases j:nW s id field with
 |nil =>rw[j]at g;rw[g];have c:decide ((p.length:Int)<((p++[]).length:Int))=false:=df Ψ;rw[c];simp[HG]
 |cons x r =>rw[j]at g;rw[g,bt (t:=ah),MD (t:=ah),abm (t:=ah)];simp[cD];by_cases C:x.1=id <;> by_cases l:x.2.1=field <;> simp[C,l]
def acC (p:List t.den)(c:t.den)(r:List t.den):List.drop (p.length+1) (p++c::r)=r:=by rw[←List.drop_drop];simp
def SB (s:Sta)(id field:Int)(l:List Alt)(h:aei s id field l=true):∃g,FD g s id field l=some (.val ai (pG s id field l)):=by
 refine⟨0, ?_⟩;have hG:b9 s id field=true:=h;obtain⟨h1,_⟩:=Al hG;have f:=El s id field;unfold pG;have C:∀(out:List Slt) (k:Nat),out.length≤2097152→k≤s.1.length→wi 0 out s (k:Int)=some (.val ai (out++s.1.drop k,())):=by intro out k j p;rw[SC];have c1:decide ((0:Int)≤(k:Int))=true:=dt Ω;have c2:decide ((k:Int)≤(s.1.length:Int))=true:=dt Ω;have P:decide (out.length+((List.take s.1.length s.1).drop (Int.toNat (k:Int))).length≤LIM)=true:=dt (by simp[LIM];omega);rw[c1,c2,P];simp
 have R:∀out:List Slt,out.length≤2097152→zK 0 id field s out=some (.val ai (out++Zj id field (nW s id field),())):=by
  intro out j;have p:(before s id field).length≤s.1.length:=by rw[f];simp
  rw[SD];unfold af;cases T:nW s id field with
  |nil=>
   rw[T]at f;have c:decide (((before s id field).length:Int)<(s.1.length:Int))=false:=df (by rw[f];simp);rw[c,C out _ j p];have hd:s.1.drop (before s id field).length=[]:=by rw[f];simp
   rw[hd];simp[HG,Zj]
  |cons x r=>
   rw[T]at f;have J:(before s id field).length+1≤s.1.length:=by rw[f];simp
   have e1:ix ah s.1 ((before s id field).length:Int)=x:=by rw[f];exact bt (t:=ah) _ _ _
   have c1:decide (((before s id field).length:Int)<(s.1.length:Int))=true:=dt Ω;have c2:decide ((0:Int)≤((before s id field).length:Int))=true:=dt Ω;have e2:w64 (((before s id field).length:Int)+1)=(((before s id field).length+1:Nat):Int):=by rw[Cc Ω Ω];simp
   have d1:s.1.drop (before s id field).length=x::r:=by rw[f];simp
   have d2:s.1.drop ((before s id field).length+1)=r:=by rw[f];exact acC (t:=ah) _ _ _
   rw[e1,c1,c2,e2,C out _ j p,C out _ j J,d1,d2];simp[cD];by_cases g1:x.1=id <;> by_cases g2:x.2.1=field <;> simp[g1,g2,Zj]
 rw[aee,hG];unfold af;have p:(before s id field).length≤s.1.length:=by rw[f];simp
 have U:(List.take (Int.toNat ((before s id field).length:Int)) s.1).drop 0=before s id field:=by simp;rw[f];simp
 have c1:decide ((0:Int)≤((before s id field).length:Int))=true:=dt Ω;have c2:decide (((before s id field).length:Int)≤(s.1.length:Int))=true:=dt Ω;have P:decide (([]:List Slt).length+(before s id field).length≤LIM)=true:=dt (by simp[LIM];omega);have c4:decide ((([]:List Slt)++before s id field).length+([(id,field,l,())]:List Slt).length≤LIM)=true:=dt (by simp[LIM];omega);rw[U,c1,c2,P,c4,R _ Ξ,R _ Ξ];cases l with
 |nil=>simp
 |cons a l =>have c5:decide (((a::l).length:Int)>0)=true:=dt Ψ;rw[c5];simp
def xG {f:Type}(p:f→Bool):∀(l:List f),∀x∈l.takeWhile p,p x=true
 |[],x,h=>by simp at h
 |y::l,x,h=>by
  rw[List.takeWhile_cons]at h;split at h
  next hy=>
   obtain rfl|h:=P'.1 h
   ·exact hy
   ·exact xG p l x h
  ·simp at h
def vr {f:Type}(p:f→Bool):∀(l:List f) (x:f) (r:List f),l.dropWhile p=x::r→p x=false
 |[],x,r,h=>by simp at h
 |y::l,x,r,h=>by
  rw[List.dropWhile_cons]at h;split at h
  ·exact vr p l x r h
  next hy=>injection h with h1 h2;subst h1;simpa using hy
def Yq (s:Sta):(eX s).1.length≤s.1.length:=by simp only[eX,b_];exact Q? _ _
def Nz:ar prog 145 xt:=ZK trivial
def abr:ar prog 94 GV:=TD trivial  MA
def Po:ar prog 182 Ak:=Tg ⟨Nz,aoG⟩  Mg
def Nt:ar prog 141 ET:=ZG ⟨Po,aoG⟩  RO
def ag3:ar prog 142 SE:=aaD ⟨Po,aoG⟩  SB
