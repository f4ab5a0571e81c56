/- The equations of the program's functions. -/
import Derived.Test.YthfdnklcgfkjoaaGreatDoorGenG
set_option linter.all false
noncomputable section
namespace Go.Proofs.YthfdnklcgfkjoaaGreatDoor.Abs
abbrev aM:Ty:=(.cons tInt (.cons aW .unit))
abbrev La':=List aM.den
abbrev ae:Ty:=.cons tInt (.cons tInt (.cons (.slice aM) .unit))
abbrev Lb':=List ae.den
abbrev ag:Ty:=(.cons (.slice ae) .unit)
abbrev ac:Ty:=.cons tInt (.cons tInt (.cons tInt (.cons (.slice aM) (.cons (.slice tInt) .unit))))
abbrev Lc':=List ac.den
abbrev ak:Ty:=(.cons ao (.cons tInt .unit))
abbrev Ld':=List ak.den
abbrev Val:=aW.den
abbrev Alt:=aM.den
abbrev Slt:=ae.den
abbrev Sta:=ag.den
abbrev Cel:=aa.den
abbrev Mdl:=aB.den
abbrev Reg:=ac.den
abbrev Stg:=ak.den
def adQ (l:List Int):Bool:=decide (l.length≤LIM)
def orF (l:List Int):Int:=match l.find? (λn=>!decide (n=0))with|some n=>n|none=>0
def qP (x y:Int):Int:=if x<y then -1 else if y<x then 1 else 0
def eU (a b:Int):Int:=if a=0 then b else a
def zv:Val:=(0,false,[],0,())
def ahd (i f i2 g:Int):Bool:=i<i2||i=i2&&f<g
def yF (l:List Alt):Bool:=decide (l.length≤1048576)
def stG (s:Sta):Bool:=s.1.length≤1048576&&s.1.all λx=>!x.2.2.1.isEmpty&&yF x.2.2.1
def sG (x:Slt):Val:=match x.2.2.1 with|a::_=>a.2.1|[]=>zv
def bh (s:Sta):Mdl:=((s.1.filter λx=>!eqD aW (sG x) zv).map λx=>(x.1,x.2.1,sG x,()),())
def Hk (m:Mdl):Bool:=decide (m.1.length≤1048576)
def dz (a b:Slt):Prop:=ahd a.1 a.2.1 b.1 b.2.1=true
instance slotDec (a b:Slt):Decidable (dz a b):=inferInstanceAs (Decidable (_=true))
def agd (l:List Slt):Bool:=decide (l.Pairwise dz)
def cj (s:Sta)(_ _:Int):Bool:=s.1.length≤1048576&&agd s.1
def before (s:Sta)(id field:Int):List Slt:=s.1.takeWhile λx=>ahd x.1 x.2.1 id field
def ju (s:Sta)(id field:Int):List Slt:=s.1.dropWhile λx=>ahd x.1 x.2.1 id field
def ai (s:Sta)(id field:Int):Int:=((before s id field).length:Int)
def iX (s:Sta)(id field:Int):List Alt:=match ju s id field with
 |x::_=>if x.1=id∧x.2.1=field then x.2.2.1 else[]
 |[]=>[]
def aa3 (id field:Int):List Slt→List Slt
 |x::r=>if x.1=id∧x.2.1=field then r else x::r
 |[]=>[]
def de (s:Sta)(id field:Int)(l:List Alt):Sta:=(before s id field++(if l.isEmpty then[]else[(id,field,l,())])++aa3 id field (ju s id field),())
def acL (s:Sta)(id field:Int)(_:List Alt):Bool:=cj s id field
def gI (l:List Alt):Bool:=match l with
 |a::r=>r.any (λb=>!eqD aW b.2.1 a.2.1)
 |[]=>false
def idA (l:List Alt):List Alt:=l
def yQ (l:List Alt):Bool:=!l.isEmpty&&yF l
def jr (a b:Stg):Int:=eU (qP a.1.1 b.1.1) (eU (qP a.1.2.1 b.1.2.1) (qP a.2.1 b.2.1))
def agp (_:Stg):Bool:=true
def cF (c:Cel):Bool:=c.2.1=2&&!c.2.2.1.2.2.2.1=0&&c.2.2.1.1≥1&&c.2.2.1.1≤3
def acu (c:Cel):Stg:=((c.2.2.1.2.2.2.1,c.2.2.1.1,()),c.1,())
def px (m:Mdl):List Stg:=(m.1.filter cF).map acu
def dZ (m:Mdl):List Stg:=gW jr (px m)
def gS:Nat→List Stg→List Reg
 |0,_=>[]
 |_+1,[]=>[]
 |n+1,x::r=>(if (r.takeWhile (λy=>eqD ao y.1 x.1)).isEmpty then[]else[(2,x.1.1,x.1.2.1,[],x.2.1::(r.takeWhile (λy=>eqD ao y.1 x.1)).map (·.2.1),())])++gS n (r.dropWhile (λy=>eqD ao y.1 x.1))
def dY (s:Sta):List Reg:=(s.1.filter λx=>gI x.2.2.1).map λx=>(1,x.1,x.2.1,x.2.2.1,[],())
def nV (s:Sta):List Reg:=let a:=dZ (bh s);dY s++gS a.length a
def W8 (s:Sta):Bool:=stG s
open Go Tryz
def iY:TabL:={
 ty:=[(3,tInt),(4,.bool),(9,.str),(25,(.slice ae)),(27,ag),(31,(.slice aa)),(34,(.slice ac)),(39,(.slice tInt)),(48,aB),(56,aW),(58,aa),(64,(.slice aM)),(66,ac),(72,aM),(90,ae),(101,(.slice ak)),(104,ao),(106,ak)],
 cells:=[(3,1),(4,1),(9,1),(25,1),(27,1),(31,1),(34,1),(39,1),(48,1),(56,4),(58,6),(64,1),(66,5),(72,5),(90,3),(97,1),(101,1),(104,2),(106,3),(160,1)],
 offs:=[((27,0),0),((48,0),0),((56,0),0),((56,1),1),((56,2),2),((56,3),3),((58,0),0),((58,1),1),((58,2),2),((66,0),0),((66,1),1),((66,2),2),((66,3),3),((66,4),4),((72,0),0),((72,1),1),((90,0),0),((90,1),1),((90,2),2),((104,0),0),((104,1),1),((106,0),0),((106,1),2)],
 one:=[(66,5)],
 elem:=[(25,90),(31,58),(34,66),(39,3),(64,72),(101,106)] }
def cY:TabOk prog iY.tab:=TabL.ok Φ
def pC (x:Int):Bool:=(!decide (x=x))
def EI:List (Nat×Ent):=[]
def ajL:Par:=⟨iY.tab,aA EI,λ_=>look [],λ_=>look []⟩
def ajK:Code:=(f137.body).getD .skip
def XR:Fi:=⟨ajL,6,[.tmp 2],ajK⟩
def ajM:KT:=br iY.tab [.tmp 2] [.bool]
def K0 (f:Nat)(x:Int):Option AV:=eF fi0 hs0 0 XR [.bool] f [.val tInt x]
def ad1 (f:Nat)(x:Int):K0 f x=some (.val .bool (!x=x)):=Φ
def ad0:aK prog EI→FiOk prog 137 (XR):=λh=>⟨⟨f137,func137,rfl,Φ,Φ,Φ⟩,cY,ah h⟩
def EH:Ent:=sp1 tInt (λ_=>true) λf=>.val .bool (pC f)
def aay (l:aK prog EI)(h:∀(f:Int),∃g,K0 g f=some (.val .bool (pC f))):am prog 137 EH:=d7 λf _=>(let ⟨_,j⟩:=h f;aC follows (λ_ _ h=>by cases h) bI (ad0 l) (ds:=[⟨_,f⟩]) j)
def aaz (f:aK prog EI):am prog 137 EH:=aay f (λx=>⟨0,by rw[ad1];first|rfl|(simp only[gA];rfl)⟩)
def pd (x:Int)(y:Int):Int:=cond (pC x) (cond (pC y) (0:Int) (-1:Int)) (cond (pC y) (1:Int) (cond (x<y) (-1:Int) (cond (x>y) (1:Int) (0:Int))))
def Ou:List (Nat×Ent):=[(137,EH)]
def anv:Par:=⟨iY.tab,aA Ou,λ_=>look [],λ_=>look []⟩
def anu:Code:=(f99.body).getD .skip
def afr:Fi:=⟨anv,20,[.tmp 4],anu⟩
def SX (f:Nat)(x:Int)(y:Int):Option AV:=eF fi0 hs0 0 afr [tInt] f [.val tInt x,.val tInt y]
def akw (f:Nat)(x:Int)(y:Int):SX f x y=cond (pC x) (cond (pC y) (some (.val tInt (0:Int))) (some (.val tInt (-1:Int)))) (cond (pC y) (some (.val tInt (1:Int))) (cond (x<y) (some (.val tInt (-1:Int))) (cond (x>y) (some (.val tInt (1:Int))) (some (.val tInt (0:Int)))))):=Φ
def akv:aK prog Ou→FiOk prog 99 (afr):=λh=>⟨⟨f99,func99,rfl,Φ,Φ,Φ⟩,cY,ah h⟩
def Iv:Ent:=sp2 tInt tInt (λ_ _=>true) λg f=>.val tInt (pd g f)
def afp (p:aK prog Ou)(h:∀(g:Int) (f:Int),∃j,SX j g f=some (.val tInt (pd g f))):am prog 99 Iv:=yg λg f _=>(let ⟨_,l⟩:=h g f;aC follows (λ_ _ h=>by cases h) bI (akv p) (ds:=[⟨_,g⟩,⟨_,f⟩]) l)
def afq (f:aK prog Ou):am prog 99 Iv:=afp f (λx y=>⟨0,by rw[akw];first|rfl|(simp only[gA];rfl)⟩)
def Xj:MS:=⟨0,[],[(3,.dat tInt),(6,.dat (.slice tInt)),(7,.dat tInt),(8,.dat tInt)]⟩
def adp:List (Nat×Ent):=[]
def adq:Par:=⟨iY.tab,aA adp,λ_=>look [],λ_=>look [(3,Xj)]⟩
def ado:Code:=(f98.body).getD .skip
def alm:Fi:=⟨adq,18,[.tmp 2],ado⟩
def amk:Code:=sub ado [1,1,0,1,0,0]
def amj:Code:=sub ado [1,1,1]
def aoo:KT:=br iY.tab [.tmp 2] [tInt]
def Nk (f:Nat)(n:Nat)(g:(List Int))(l:Int):Option AV:=let a:=aL fi0 hs0 f 0;aI 0 Xj (λj k=>exec a adq 0 f amk j k) (aj 0 (aP 0 none (λj k=>exec a adq 0 f amj j k) aoo)) n ⟨mkE 18 [(3,.val tInt (0:Int)),(6,.val (.slice tInt) g),(7,.val tInt (g.length:Int)),(8,.val tInt l)],mkH 0 []⟩
def Nj (g:Nat)(f:(List Int)):Option AV:=eF fi0 hs0 0 alm [tInt] g [.val (.slice tInt) f]
def KJ (g l:Nat)(f:(List Int))(j:Int):Nk g (l+1) f j=cond (j<(f.length:Int)) (cond (0≤j&&j<(f.length:Int)) (cond (!ix tInt f j=0) (some (.val tInt (ix tInt f j))) (Nk g l f (w64 (j+1)))) none) (some (.val tInt (0:Int))):=Φ
def ami (f:Nat)(g:(List Int)):Nj f g=(Nk f f g 0):=Φ
def amh:aK prog adp→FiOk prog 98 (alm):=λh=>⟨⟨f98,func98,rfl,Φ,Φ,Φ⟩,cY,ah h⟩
def Xk:Ent:=sp1 (.slice tInt) (λf=>adQ f) λf=>.val tInt (orF f)
def aiQ (p:aK prog adp)(h:∀(f:(List Int)),adQ f=true→∃g,Nj g f=some (.val tInt (orF f))):am prog 98 Xk:=d7 λf j=>(let ⟨_,l⟩:=h f j;aC follows (λ_ _ h=>by cases h) bI (amh p) (ds:=[⟨_,f⟩]) l)
def vj (id:Int)(field:Int)(g:Int)(f:Int):Bool:=cond (id<g) true (cond (id=g) (decide (field<f)) false)
def EX:List (Nat×Ent):=[]
def ak6:Par:=⟨iY.tab,aA EX,λ_=>look [],λ_=>look []⟩
def ak5:Code:=(f48.body).getD .skip
def Yx:Fi:=⟨ak6,22,[.tmp 8],ak5⟩
def C0 (g:Nat)(id:Int)(field:Int)(j:Int)(f:Int):Option AV:=eF fi0 hs0 0 Yx [.bool] g [.val tInt id,.val tInt field,.val tInt j,.val tInt f]
def abE (j:Nat)(id:Int)(field:Int)(f:Int)(g:Int):C0 j id field f g=cond (az (!id<f) (!id<f)&&(az (!id<f) (!id<f)&&true)&&true) (cond (az (!id<f) (!id<f)&&true&&true) (cond (az (!id<f&&id=f) (!id<f&&id=f)&&(az (!id<f&&id=f) (!id<f&&id=f)&&true)&&true) (cond (az (!id<f) (!id<f)&&az (!id<f) (az (!id<f&&id=f) (!id<f&&id=f)&&true)) (cond (az (!id<f) (!id<f)) (some (.val .bool (cond (id<f) true (cond (id=f) (decide (field<g)) false)))) none) none) none) none) none:=Φ
def agA (j:Nat)(id:Int)(field:Int)(g:Int)(f:Int):C0 j id field g f=some (.val .bool (cond (id<g) true (cond (id=g) (decide (field<f)) false))):=by simpa only[aD,bf,v_,t_,ξ,S',w_,x_,m_,u_,Int.reduceLE,Int.reduceEq,Int.reduceLT,I']using abE j id field g f
def agz:aK prog EX→FiOk prog 48 (Yx):=λh=>⟨⟨f48,func48,rfl,Φ,Φ,Φ⟩,cY,ah h⟩
def xo:Ent:=sp4 tInt tInt tInt tInt (λ_ _ _ _=>true) λl j g f=>.val .bool (vj l j g f)
def abF (C:aK prog EX)(h:∀(l:Int) (j:Int) (g:Int) (f:Int),∃p,C0 p l j g f=some (.val .bool (vj l j g f))):am prog 48 xo:=acy λl j g f _=>(let ⟨_,r⟩:=h l j g f;aC follows (λ_ _ h=>by cases h) bI (agz C) (ds:=[⟨_,l⟩,⟨_,j⟩,⟨_,g⟩,⟨_,f⟩]) r)
def abG (j:aK prog EX):am prog 48 xo:=abF j (λid field g f=>⟨0,by rw[agA];first|rfl|(simp only[gA];rfl)⟩)
def Hj:List (Nat×Ent):=[]
def AD:Par:=⟨iY.tab,aA Hj,λ_=>look [],λ_=>look []⟩
def AC:Code:=(f53.body).getD .skip
def Ri:Fi:=⟨AD,36,[.cell 2 48],AC⟩
def aaf:Code:=sub AC [1,1,0,1,0,1]
def aae:Code:=sub AC [1,1,0,1,0,0]
def aad:Code:=sub AC [1,1,1]
def lk:List (Nat×Ent):=[]
def NF:Par:=⟨iY.tab,aA lk,λ_=>look [],λ_=>look []⟩
def NE:Code:=(f49.body).getD .skip
def AA:Fi:=⟨NF,4,[.tmp 2],NE⟩
def uq:MS:=⟨10,[(0,[.dat (.slice ae)]),(1,[.own aa 58]),(2,[.own aa 58]),(5,[.dat (.slice ae)])],[(0,.keep),(6,.dat (.slice ae)),(7,.dat tInt),(8,.dat tInt)]⟩
def lj:List (Nat×Ent):=[]
def Ay:Par:=⟨iY.tab,aA lj,λ_=>look [],λ_=>look [(1,uq)]⟩
def Ax:Code:=(f95.body).getD .skip
def Az:Fi:=⟨Ay,17,[],Ax⟩
def Ji:Code:=sub Ax [1,0,0]
def AE:KT:=br iY.tab [.cell 2 48] [aB]
def jh:FuncId→Option Fi:=look [(49,AA),(95,Az)]
def cL (f:Nat)(n:Nat)(s:ag.den)(J:Int)(r:Lb')(p:Λ)(l:Λ)(j:Lb'):Option AV:=let b:=aL jh hs0 f 1;let a:=mkE 36 [(0,.val ag s),(1,.box 0 0),(2,.box 1 0),(3,.box 2 0),(5,.val ag s),(6,.fn 95 (aF [.box 5 0]))];aI 10 uq (λg k=>exec (Ec (qE jh hs0 f 0) (rP 9 b.call a [7] (λC g k=>exec b AD C f aaf g (AM (λg k=>exec b AD C f aae g k) k)))) Ay 10 f Ji g k) (aj 0 (al3 iY.tab [] (adW a (aj 0 (aP 0 none (λg k=>exec b AD 0 f aad g k) AE))))) n ⟨mkE 17 [(0,.yld 9),(6,.val (.slice ae) s.1),(7,.val tInt (s.1.length:Int)),(8,.val tInt J)],mkH 12 [(0,.box [.val (.slice ae) r]),(1,.box [.own 10 0 aa p]),(2,.box [.own 11 0 aa l]),(5,.box [.val (.slice ae) j]),(9,.dead),(10,.row aa 58 0),(11,.row aa 58 0)]⟩
def yB (f:Nat)(s:ag.den):Option AV:=eF jh hs0 1 Ri [aB] f [.val ag s]
def Aw (l j:Nat)(s:ag.den)(f:Int)(C:Lb')(r:Λ)(g:Λ)(p:Lb'):cL l (j+1) s f C r g p=cond (f<(s.1.length:Int)) (cond (0≤f&&f<(s.1.length:Int)) (cond (az (decide (((ix ae s.1 f).2.2.1.length:Int)>0)) (decide (((ix ae s.1 f).2.2.1.length:Int)>0))&&true&&true) (cond (az (decide (((ix ae s.1 f).2.2.1.length:Int)>0)) (decide (((ix ae s.1 f).2.2.1.length:Int)>0))&&true&&az (decide (((ix ae s.1 f).2.2.1.length:Int)>0)) (0≤(0:Int)&&0<((ix ae s.1 f).2.2.1.length:Int))) (cond (az (decide (((ix ae s.1 f).2.2.1.length:Int)>0)) (decide (((ix ae s.1 f).2.2.1.length:Int)>0))&&true&&true) (cond (az (decide (((ix ae s.1 f).2.2.1.length:Int)>0)) (decide (((ix ae s.1 f).2.2.1.length:Int)>0))&&true&&true) (cond (az (decide (((ix ae s.1 f).2.2.1.length:Int)>0)) (decide (((ix ae s.1 f).2.2.1.length:Int)>0))&&(az (decide (((ix ae s.1 f).2.2.1.length:Int)>0)) (decide (((ix ae s.1 f).2.2.1.length:Int)>0))&&true)&&true) (cond (az (decide (((ix ae s.1 f).2.2.1.length:Int)>0)) (decide (((ix ae s.1 f).2.2.1.length:Int)>0))&&true) (cond (cond (((ix ae s.1 f).2.2.1.length:Int)>0) (!eqD aW (ix aM (ix ae s.1 f).2.2.1 0).2.1 (0,false,[],0,())) false) (cond (0≤(0:Int)&&0<((ix ae s.1 f).2.2.1.length:Int)) (cond (List.length g+List.length ([((ix ae s.1 f).1,(ix ae s.1 f).2.1,(ix aM (ix ae s.1 f).2.2.1 0).2.1,())]:List aa.den)≤LIM) (cL l j s (w64 (f+1)) C r (g++[((ix ae s.1 f).1,(ix ae s.1 f).2.1,(ix aM (ix ae s.1 f).2.2.1 0).2.1,())]) p) none) none) (cL l j s (w64 (f+1)) C r g p)) none) none) none) none) none) none) none) (some (.val aB (g,()))):=Φ
def qD (l g:Nat)(s:ag.den)(j:Int)(C:Lb')(r:Λ)(f:Λ)(p:Lb'):cL l (g+1) s j C r f p=cond (j<(s.1.length:Int)) (cond (0≤j&&j<(s.1.length:Int)) (cond (az (decide (((ix ae s.1 j).2.2.1.length:Int)>0)) (0≤(0:Int)&&0<((ix ae s.1 j).2.2.1.length:Int))) (cond (cond (((ix ae s.1 j).2.2.1.length:Int)>0) (!eqD aW (ix aM (ix ae s.1 j).2.2.1 0).2.1 (0,false,[],0,())) false) (cond (0≤(0:Int)&&0<((ix ae s.1 j).2.2.1.length:Int)) (cond (List.length f+List.length ([((ix ae s.1 j).1,(ix ae s.1 j).2.1,(ix aM (ix ae s.1 j).2.2.1 0).2.1,())]:List aa.den)≤LIM) (cL l g s (w64 (j+1)) C r (f++[((ix ae s.1 j).1,(ix ae s.1 j).2.1,(ix aM (ix ae s.1 j).2.2.1 0).2.1,())]) p) none) none) (cL l g s (w64 (j+1)) C r f p)) none) none) (some (.val aB (f,()))):=by simpa only[aD,bf,v_,t_,ξ,S',w_,x_,m_,u_,Int.reduceLE,Int.reduceEq,Int.reduceLT,I']using Aw l g s j C r f p
def aac (f:Nat)(s:ag.den):yB f s=(cL f f s 0 (s.1) [] [] (s.1)):=Φ
def aab:aK prog Hj→FiOk prog 53 (Ri):=λh=>⟨⟨f53,func53,rfl,Φ,Φ,Φ⟩,cY,ah h⟩
def Jj:aK prog lk→FiOk prog 49 (AA):=λh=>⟨⟨f49,func49,rfl,Φ,Φ,Φ⟩,cY,ah h⟩
def Jh:aK prog lj→FiOk prog 95 (Az):=λh=>⟨⟨f95,func95,rfl,Φ,Φ,Φ⟩,cY,ah h⟩
def Rh (l:aK prog lk)(j:aK prog lj):∀f x,jh f=some x→FiOk prog f x:=λf x h=>by
 have g:=iO h;simp only[N',List.not_mem_nil,or_false,π]at g;rcases g with⟨rfl,rfl⟩|⟨rfl,rfl⟩
 ·exact Jj l
 ·exact Jh j
def Hi:Ent:=sp1 ag (λf=>stG f) λf=>.val aB (bh f)
def Va (p:aK prog Hj)(C:aK prog lk)(r:aK prog lj)(h:∀(f:ag.den),stG f=true→∃g,yB g f=some (.val aB (bh f))):am prog 53 Hi:=d7 λf j=>(let ⟨_,l⟩:=h f j;aC follows (Rh C r) bI (aab p) (ds:=[⟨_,f⟩]) l)
def mV:MS:=⟨3,[(0,[.dat (.slice ae)]),(1,[.own aa 58]),(2,[.own aa 58])],[(1,.keep),(2,.keep),(3,.keep),(4,.dat tInt)]⟩
def Hh:List (Nat×Ent):=[]
def mW:Par:=⟨iY.tab,aA Hh,λ_=>look [(4,mV)],λ_=>look [(3,mV)]⟩
def Av:Code:=(f16.body).getD .skip
def Rf:Fi:=⟨mW,41,[.cell 2 48],Av⟩
def KU:Code:=sub Av [1,1,0,1,0,0]
def Cm:Code:=sub Av [1,1,1]
def aaa:Code:=sub Av [1,1,0,1,0,0,1,1]
def wC (f:Nat)(n:Nat)(s:ag.den)(i:Int)(g:Λ):Option AV:=let a:=aL fi0 hs0 f 0;aI 0 mV (λj k=>exec a mW 0 f KU j k) (aj 0 (aP 0 none (λj k=>exec a mW 0 f Cm j k) AE)) n ⟨mkE 41 [(1,.box 0 0),(2,.box 1 0),(3,.box 2 0),(4,.val tInt i)],mkH 5 [(0,.box [.val (.slice ae) s.1]),(1,.box [.own 3 0 aa []]),(2,.box [.own 4 0 aa g]),(3,.row aa 58 0),(4,.row aa 58 0)]⟩
def Cl (f l:Nat)(i:Int)(s:ag.den)(j:Λ):Option AV:=let a:=aL fi0 hs0 f 0;exec a mW 0 f aaa ⟨mkE 41 [(1,.box 0 0),(2,.box 1 0),(3,.box 2 0),(4,.val tInt i)],mkH 5 [(0,.box [.val (.slice ae) s.1]),(1,.box [.own 3 0 aa []]),(2,.box [.own 4 0 aa j]),(3,.row aa 58 0),(4,.row aa 58 0)]⟩ (uG 0 mV (aI 0 mV (λg k=>exec a mW 0 f KU g k) (aj 0 (aP 0 none (λg k=>exec a mW 0 f Cm g k) AE)) l) (aj 0 (aP 0 none (λg k=>exec a mW 0 f Cm g k) AE)))
def yA (f:Nat)(s:ag.den):Option AV:=eF fi0 hs0 0 Rf [aB] f [.val ag s]
def As (g j:Nat)(s:ag.den)(i:Int)(f:Λ):wC g (j+1) s i f=cond (i<(s.1.length:Int)) (cond (0≤i&&i<(s.1.length:Int)) (cond (0≤(0:Int)&&0<((ix ae s.1 i).2.2.1.length:Int)) (cond (!eqD aW (ix aM (ix ae s.1 i).2.2.1 0).2.1 (0,false,[],0,())) (cond (0≤(0:Int)&&0<((ix ae s.1 i).2.2.1.length:Int)) (cond (List.length f+List.length ([((ix ae s.1 i).1,(ix ae s.1 i).2.1,(ix aM (ix ae s.1 i).2.2.1 0).2.1,())]:List aa.den)≤LIM) (Cl g j i s (f++[((ix ae s.1 i).1,(ix ae s.1 i).2.1,(ix aM (ix ae s.1 i).2.2.1 0).2.1,())])) none) none) (Cl g j i s f)) none) none) (some (.val aB (f,()))):=Φ
def At (f j:Nat)(i:Int)(s:ag.den)(g:Λ):Cl f j i s g=(wC f j s (w64 (i+1)) g):=Φ
def Z9 (f:Nat)(s:ag.den):yA f s=(wC f f s 0 []):=Φ
def Z8:aK prog Hh→FiOk prog 16 (Rf):=λh=>⟨⟨f16,func16,rfl,Φ,Φ,Φ⟩,cY,ah h⟩
def Au:Ent:=sp1 ag (λf=>stG f) λf=>.val aB (bh f)
def U9 (p:aK prog Hh)(h:∀(f:ag.den),stG f=true→∃g,yA g f=some (.val aB (bh f))):am prog 16 Au:=d7 λf j=>(let ⟨_,l⟩:=h f j;aC follows (λ_ _ h=>by cases h) bI (Z8 p) (ds:=[⟨_,f⟩]) l)
def GA:MS:=⟨1,[(0,[.dat (.slice ae)])],[(1,.dat tInt),(2,.dat tInt),(3,.keep),(7,.dat tInt),(8,.dat tInt)]⟩
def GC:List (Nat×Ent):=[(48,xo)]
def GD:Par:=⟨iY.tab,aA GC,λ_=>look [],λ_=>look [(2,GA)]⟩
def GB:Code:=(f61.body).getD .skip
def QN:Fi:=⟨GD,39,[.tmp 6],GB⟩
def ZJ:Code:=sub GB [1,1,0,0,0]
def ZI:Code:=sub GB [1,1,1]
def adj:KT:=br iY.tab [.tmp 6] [tInt]
def g8 (f:Nat)(n:Nat)(id:Int)(field:Int)(s:ag.den)(j:Int)(l:Int):Option AV:=let a:=aL fi0 hs0 f 0;aI 0 GA (λg k=>exec a GD 0 f ZJ g k) (aj 0 (aP 0 none (λg k=>exec a GD 0 f ZI g k) adj)) n ⟨mkE 39 [(1,.val tInt id),(2,.val tInt field),(3,.box 0 0),(7,.val tInt j),(8,.val tInt l)],mkH 1 [(0,.box [.val (.slice ae) s.1])]⟩
def yw (f:Nat)(s:ag.den)(id:Int)(field:Int):Option AV:=eF fi0 hs0 0 QN [tInt] f [.val ag s,.val tInt id,.val tInt field]
def Jb (j l:Nat)(id:Int)(field:Int)(s:ag.den)(f:Int)(g:Int):g8 j (l+1) id field s f g=cond (f<g) (cond (!(2:Int)=0) (cond (0≤w64 (Int.tdiv (w64 (f+g)) 2)&&w64 (Int.tdiv (w64 (f+g)) 2)<(s.1.length:Int)) (cond (0≤w64 (Int.tdiv (w64 (f+g)) 2)&&w64 (Int.tdiv (w64 (f+g)) 2)<(s.1.length:Int)) (cond (vj (ix ae s.1 (w64 (Int.tdiv (w64 (f+g)) 2))).1 (ix ae s.1 (w64 (Int.tdiv (w64 (f+g)) 2))).2.1 id field) (g8 j l id field s (w64 (w64 (Int.tdiv (w64 (f+g)) 2)+1)) g) (g8 j l id field s f (w64 (Int.tdiv (w64 (f+g)) 2)))) none) none) none) (some (.val tInt f)):=Φ
def Nb (f l:Nat)(id:Int)(field:Int)(s:ag.den)(g:Int)(j:Int):g8 f (l+1) id field s g j=cond (g<j) (cond (0≤w64 (Int.tdiv (w64 (g+j)) 2)&&w64 (Int.tdiv (w64 (g+j)) 2)<(s.1.length:Int)) (cond (0≤w64 (Int.tdiv (w64 (g+j)) 2)&&w64 (Int.tdiv (w64 (g+j)) 2)<(s.1.length:Int)) (cond (vj (ix ae s.1 (w64 (Int.tdiv (w64 (g+j)) 2))).1 (ix ae s.1 (w64 (Int.tdiv (w64 (g+j)) 2))).2.1 id field) (g8 f l id field s (w64 (w64 (Int.tdiv (w64 (g+j)) 2)+1)) j) (g8 f l id field s g (w64 (Int.tdiv (w64 (g+j)) 2)))) none) none) (some (.val tInt g)):=by simpa only[aD,bf,v_,t_,ξ,S',w_,x_,m_,u_,Int.reduceLE,Int.reduceEq,Int.reduceLT,I']using Jb f l id field s g j
def ZH (f:Nat)(s:ag.den)(id:Int)(field:Int):yw f s id field=(g8 f f id field s 0 (s.1.length:Int)):=Φ
def ZG:aK prog GC→FiOk prog 61 (QN):=λh=>⟨⟨f61,func61,rfl,Φ,Φ,Φ⟩,cY,ah h⟩
def Ae:Ent:=sp3 ag tInt tInt (λj g f=>cj j g f) λj g f=>.val tInt (ai j g f)
def UI (C:aK prog GC)(h:∀(j:ag.den) (g:Int) (f:Int),cj j g f=true→∃l,yw l j g f=some (.val tInt (ai j g f))):am prog 61 Ae:=acz λj g f p=>(let ⟨_,r⟩:=h j g f p;aC follows (λ_ _ h=>by cases h) bI (ZG C) (ds:=[⟨_,j⟩,⟨_,g⟩,⟨_,f⟩]) r)
def OI:List (Nat×Ent):=[(61,Ae)]
def ak2:Par:=⟨iY.tab,aA OI,λ_=>look [],λ_=>look []⟩
def ak1:Code:=(f45.body).getD .skip
def Yv:Fi:=⟨ak2,43,[.tmp 6],ak1⟩
def xl (f:Nat)(s:ag.den)(id:Int)(field:Int):Option AV:=eF fi0 hs0 0 Yv [.slice aM] f [.val ag s,.val tInt id,.val tInt field]
def abB (f:Nat)(s:ag.den)(id:Int)(field:Int):xl f s id field=cond (cj s id field) (cond (az (decide (ai s id field<(s.1.length:Int))) (decide (ai s id field<(s.1.length:Int)))&&true&&true) (cond (az (decide (ai s id field<(s.1.length:Int))) (decide (ai s id field<(s.1.length:Int)))&&(az (decide (ai s id field<(s.1.length:Int))) (decide (ai s id field<(s.1.length:Int)))&&true)&&az (decide (ai s id field<(s.1.length:Int))) (0≤ai s id field&&ai s id field<(s.1.length:Int))) (cond (az (decide (ai s id field<(s.1.length:Int))) (decide (ai s id field<(s.1.length:Int)))&&true&&true) (cond (az (decide (ai s id field<(s.1.length:Int))) (decide (ai s id field<(s.1.length:Int)))&&true&&true) (cond (az (decide (ai s id field<(s.1.length:Int))) (decide (ai s id field<(s.1.length:Int)))&&(az (decide (ai s id field<(s.1.length:Int))) (decide (ai s id field<(s.1.length:Int)))&&true)&&true) (cond (az (decide (ai s id field<(s.1.length:Int))) (decide (ai s id field<(s.1.length:Int)))&&true) (cond (az (cond (ai s id field<(s.1.length:Int)) (decide ((ix ae s.1 (ai s id field)).1=id)) false) (cond (ai s id field<(s.1.length:Int)) (decide ((ix ae s.1 (ai s id field)).1=id)) false)&&true&&true) (cond (az (cond (ai s id field<(s.1.length:Int)) (decide ((ix ae s.1 (ai s id field)).1=id)) false) (cond (ai s id field<(s.1.length:Int)) (decide ((ix ae s.1 (ai s id field)).1=id)) false)&&(az (cond (ai s id field<(s.1.length:Int)) (decide ((ix ae s.1 (ai s id field)).1=id)) false) (cond (ai s id field<(s.1.length:Int)) (decide ((ix ae s.1 (ai s id field)).1=id)) false)&&true)&&az (cond (ai s id field<(s.1.length:Int)) (decide ((ix ae s.1 (ai s id field)).1=id)) false) (0≤ai s id field&&ai s id field<(s.1.length:Int))) (cond (az (cond (ai s id field<(s.1.length:Int)) (decide ((ix ae s.1 (ai s id field)).1=id)) false) (cond (ai s id field<(s.1.length:Int)) (decide ((ix ae s.1 (ai s id field)).1=id)) false)&&true&&true) (cond (az (cond (ai s id field<(s.1.length:Int)) (decide ((ix ae s.1 (ai s id field)).1=id)) false) (cond (ai s id field<(s.1.length:Int)) (decide ((ix ae s.1 (ai s id field)).1=id)) false)&&true&&true) (cond (az (cond (ai s id field<(s.1.length:Int)) (decide ((ix ae s.1 (ai s id field)).1=id)) false) (cond (ai s id field<(s.1.length:Int)) (decide ((ix ae s.1 (ai s id field)).1=id)) false)&&(az (cond (ai s id field<(s.1.length:Int)) (decide ((ix ae s.1 (ai s id field)).1=id)) false) (cond (ai s id field<(s.1.length:Int)) (decide ((ix ae s.1 (ai s id field)).1=id)) false)&&true)&&true) (cond (az (cond (ai s id field<(s.1.length:Int)) (decide ((ix ae s.1 (ai s id field)).1=id)) false) (cond (ai s id field<(s.1.length:Int)) (decide ((ix ae s.1 (ai s id field)).1=id)) false)&&true) (cond (cond (cond (ai s id field<(s.1.length:Int)) ((ix ae s.1 (ai s id field)).1=id) false) ((ix ae s.1 (ai s id field)).2.1=field) false) (cond (0≤ai s id field&&ai s id field<(s.1.length:Int)) (some (.val (.slice aM) (ix ae s.1 (ai s id field)).2.2.1)) none) (some (.val (.slice aM) []))) none) none) none) none) none) none) none) none) none) none) none) none) none:=Φ
def ago (f:Nat)(s:ag.den)(id:Int)(field:Int):xl f s id field=cond (cj s id field) (cond (az (decide (ai s id field<(s.1.length:Int))) (0≤ai s id field&&ai s id field<(s.1.length:Int))) (cond (az (cond (ai s id field<(s.1.length:Int)) (decide ((ix ae s.1 (ai s id field)).1=id)) false) (0≤ai s id field&&ai s id field<(s.1.length:Int))) (cond (cond (cond (ai s id field<(s.1.length:Int)) ((ix ae s.1 (ai s id field)).1=id) false) ((ix ae s.1 (ai s id field)).2.1=field) false) (cond (0≤ai s id field&&ai s id field<(s.1.length:Int)) (some (.val (.slice aM) (ix ae s.1 (ai s id field)).2.2.1)) none) (some (.val (.slice aM) []))) none) none) none:=by simpa only[aD,bf,v_,t_,ξ,S',w_,x_,m_,u_,Int.reduceLE,Int.reduceEq,Int.reduceLT,I']using abB f s id field
def agn:aK prog OI→FiOk prog 45 (Yv):=λh=>⟨⟨f45,func45,rfl,Φ,Φ,Φ⟩,cY,ah h⟩
def EW:Ent:=sp3 ag tInt tInt (λj g f=>cj j g f) λj g f=>.val (.slice aM) (iX j g f)
def abC (C:aK prog OI)(h:∀(j:ag.den) (g:Int) (f:Int),cj j g f=true→∃l,xl l j g f=some (.val (.slice aM) (iX j g f))):am prog 45 EW:=acz λj g f p=>(let ⟨_,r⟩:=h j g f p;aC follows (λ_ _ h=>by cases h) bI (agn C) (ds:=[⟨_,j⟩,⟨_,g⟩,⟨_,f⟩]) r)
def acH:MS:=⟨2,[(0,[.dat (.slice ae)]),(1,[.own ae 90])],[(1,.dat tInt),(2,.dat tInt),(4,.keep),(8,.keep),(9,.dat tInt),(10,.own ae 90)]⟩
def acG:MS:=⟨2,[(0,[.dat (.slice ae)]),(1,[.own ae 90])],[(4,.keep),(8,.keep),(9,.dat tInt),(10,.own ae 90)]⟩
def Uf:List (Nat×Ent):=[(61,Ae)]
def Ug:Par:=⟨iY.tab,aA Uf,λ_=>look [(5,acH),(7,acG)],λ_=>look []⟩
def Ue:Code:=(f32.body).getD .skip
def acK:Fi:=⟨Ug,65,[.cell 8 27],Ue⟩
def ag7:Code:=sub Ue [1,1,1,1]
def ag6:Code:=sub Ue [1,1,1,1,1]
def acJ:KT:=br iY.tab [.cell 8 27] [ag]
def zE (f:Nat)(id:Int)(field:Int)(s:ag.den)(out:Lb'):Option AV:=exec (aL fi0 hs0 f 0) Ug 0 f ag7 ⟨mkE 65 [(1,.val tInt id),(2,.val tInt field),(4,.box 0 0),(8,.box 1 0),(9,.val tInt (ai s id field)),(10,.own 3 0 ae out)],mkH 4 [(0,.box [.val (.slice ae) s.1]),(1,.box [.own 2 0 ae []]),(2,.row ae 90 0),(3,.row ae 90 0)]⟩ acJ
def vU (f:Nat)(out:Lb')(s:ag.den)(g:Int):Option AV:=exec (aL fi0 hs0 f 0) Ug 0 f ag6 ⟨mkE 65 [(4,.box 0 0),(8,.box 1 0),(9,.val tInt g),(10,.own 3 0 ae out)],mkH 4 [(0,.box [.val (.slice ae) s.1]),(1,.box [.own 2 0 ae []]),(2,.row ae 90 0),(3,.row ae 90 0)]⟩ acJ
def FT (f:Nat)(s:ag.den)(id:Int)(field:Int)(l:La'):Option AV:=eF fi0 hs0 0 acK [ag] f [.val ag s,.val tInt id,.val tInt field,.val (.slice aM) l]
def P0 (f:Nat)(id:Int)(field:Int)(s:ag.den)(out:Lb'):zE f id field s out=cond (az (decide (ai s id field<(s.1.length:Int))) (decide (ai s id field<(s.1.length:Int)))&&true&&true) (cond (az (decide (ai s id field<(s.1.length:Int))) (decide (ai s id field<(s.1.length:Int)))&&(az (decide (ai s id field<(s.1.length:Int))) (decide (ai s id field<(s.1.length:Int)))&&true)&&az (decide (ai s id field<(s.1.length:Int))) (0≤ai s id field&&ai s id field<(s.1.length:Int))) (cond (az (decide (ai s id field<(s.1.length:Int))) (decide (ai s id field<(s.1.length:Int)))&&true&&true) (cond (az (decide (ai s id field<(s.1.length:Int))) (decide (ai s id field<(s.1.length:Int)))&&true&&true) (cond (az (decide (ai s id field<(s.1.length:Int))) (decide (ai s id field<(s.1.length:Int)))&&(az (decide (ai s id field<(s.1.length:Int))) (decide (ai s id field<(s.1.length:Int)))&&true)&&true) (cond (az (decide (ai s id field<(s.1.length:Int))) (decide (ai s id field<(s.1.length:Int)))&&true) (cond (az (cond (ai s id field<(s.1.length:Int)) (decide ((ix ae s.1 (ai s id field)).1=id)) false) (cond (ai s id field<(s.1.length:Int)) (decide ((ix ae s.1 (ai s id field)).1=id)) false)&&true&&true) (cond (az (cond (ai s id field<(s.1.length:Int)) (decide ((ix ae s.1 (ai s id field)).1=id)) false) (cond (ai s id field<(s.1.length:Int)) (decide ((ix ae s.1 (ai s id field)).1=id)) false)&&(az (cond (ai s id field<(s.1.length:Int)) (decide ((ix ae s.1 (ai s id field)).1=id)) false) (cond (ai s id field<(s.1.length:Int)) (decide ((ix ae s.1 (ai s id field)).1=id)) false)&&true)&&az (cond (ai s id field<(s.1.length:Int)) (decide ((ix ae s.1 (ai s id field)).1=id)) false) (0≤ai s id field&&ai s id field<(s.1.length:Int))) (cond (az (cond (ai s id field<(s.1.length:Int)) (decide ((ix ae s.1 (ai s id field)).1=id)) false) (cond (ai s id field<(s.1.length:Int)) (decide ((ix ae s.1 (ai s id field)).1=id)) false)&&true&&true) (cond (az (cond (ai s id field<(s.1.length:Int)) (decide ((ix ae s.1 (ai s id field)).1=id)) false) (cond (ai s id field<(s.1.length:Int)) (decide ((ix ae s.1 (ai s id field)).1=id)) false)&&true&&true) (cond (az (cond (ai s id field<(s.1.length:Int)) (decide ((ix ae s.1 (ai s id field)).1=id)) false) (cond (ai s id field<(s.1.length:Int)) (decide ((ix ae s.1 (ai s id field)).1=id)) false)&&(az (cond (ai s id field<(s.1.length:Int)) (decide ((ix ae s.1 (ai s id field)).1=id)) false) (cond (ai s id field<(s.1.length:Int)) (decide ((ix ae s.1 (ai s id field)).1=id)) false)&&true)&&true) (cond (az (cond (ai s id field<(s.1.length:Int)) (decide ((ix ae s.1 (ai s id field)).1=id)) false) (cond (ai s id field<(s.1.length:Int)) (decide ((ix ae s.1 (ai s id field)).1=id)) false)&&true) (cond (cond (cond (ai s id field<(s.1.length:Int)) ((ix ae s.1 (ai s id field)).1=id) false) ((ix ae s.1 (ai s id field)).2.1=field) false) (vU f out s (w64 (ai s id field+1))) (vU f out s (ai s id field))) none) none) none) none) none) none) none) none) none) none) none) none:=Φ
def Ud (f:Nat)(id:Int)(field:Int)(s:ag.den)(out:Lb'):zE f id field s out=cond (az (decide (ai s id field<(s.1.length:Int))) (0≤ai s id field&&ai s id field<(s.1.length:Int))) (cond (az (cond (ai s id field<(s.1.length:Int)) (decide ((ix ae s.1 (ai s id field)).1=id)) false) (0≤ai s id field&&ai s id field<(s.1.length:Int))) (cond (cond (cond (ai s id field<(s.1.length:Int)) ((ix ae s.1 (ai s id field)).1=id) false) ((ix ae s.1 (ai s id field)).2.1=field) false) (vU f out s (w64 (ai s id field+1))) (vU f out s (ai s id field))) none) none:=by simpa only[aD,bf,v_,t_,ξ,S',w_,x_,m_,u_,Int.reduceLE,Int.reduceEq,Int.reduceLT,I']using P0 f id field s out
def Uc (g:Nat)(out:Lb')(s:ag.den)(f:Int):vU g out s f=cond (0≤f&&f≤(s.1.length:Int)) (cond (List.length out+List.length ((List.take (List.length s.1) s.1).drop (Int.toNat f))≤LIM) (some (.val ag (out++(List.take (List.length s.1) s.1).drop (Int.toNat f),()))) none) none:=Φ
def ag5 (f:Nat)(s:ag.den)(id:Int)(field:Int)(l:La'):FT f s id field l=cond (cj s id field) (cond (0≤ai s id field&&ai s id field≤(s.1.length:Int)) (cond (List.length ([]:List ae.den)+List.length ((List.take (Int.toNat (ai s id field)) s.1).drop 0)≤LIM) (cond ((l.length:Int)>0) (cond (List.length ([]++(List.take (Int.toNat (ai s id field)) s.1).drop 0)+List.length ([(id,field,l,())]:List ae.den)≤LIM) (zE f id field s ([]++(List.take (Int.toNat (ai s id field)) s.1).drop 0++[(id,field,l,())])) none) (zE f id field s ([]++(List.take (Int.toNat (ai s id field)) s.1).drop 0))) none) none) none:=Φ
def ag4:aK prog Uf→FiOk prog 32 (acK):=λh=>⟨⟨f32,func32,rfl,Φ,Φ,Φ⟩,cY,ah h⟩
def MH:Ent:=sp4 ag tInt tInt (.slice aM) (λl j g f=>acL l j g f) λl j g f=>.val ag (de l j g f)
def acI (J:aK prog Uf)(h:∀(l:ag.den) (j:Int) (g:Int) (f:La'),acL l j g f=true→∃p,FT p l j g f=some (.val ag (de l j g f))):am prog 32 MH:=acy λl j g f r=>(let ⟨_,C⟩:=h l j g f r;aC follows (λ_ _ h=>by cases h) bI (ag4 J) (ds:=[⟨_,l⟩,⟨_,j⟩,⟨_,g⟩,⟨_,f⟩]) C)
def DZ:MS:=⟨0,[],[(0,.dat (.slice aM)),(5,.dat (.slice aM)),(6,.dat tInt),(7,.dat tInt)]⟩
def CJ:List (Nat×Ent):=[]
def CL:Par:=⟨iY.tab,aA CJ,λ_=>look [],λ_=>look [(2,DZ)]⟩
def CI:Code:=(f50.body).getD .skip
def LB:Fi:=⟨CL,19,[.tmp 2],CI⟩
def VY:Code:=sub CI [1,0,1,0,0]
def VX:Code:=sub CI [1,1]
def sK (f:Nat)(n:Nat)(l:La')(j:Int):Option AV:=let a:=aL fi0 hs0 f 0;aI 0 DZ (λg k=>exec a CL 0 f VY g k) (aj 0 (aP 0 none (λg k=>exec a CL 0 f VX g k) ajM)) n ⟨mkE 19 [(0,.val (.slice aM) l),(5,.val (.slice aM) l),(6,.val tInt (l.length:Int)),(7,.val tInt j)],mkH 0 []⟩
def uX (f:Nat)(l:La'):Option AV:=eF fi0 hs0 0 LB [.bool] f [.val (.slice aM) l]
def pJ (f j:Nat)(l:La')(g:Int):sK f (j+1) l g=cond (g<(l.length:Int)) (cond (0≤g&&g<(l.length:Int)) (cond (0≤(0:Int)&&0<(l.length:Int)) (cond (!eqD aW (ix aM l g).2.1 (ix aM l 0).2.1) (some (.val .bool true)) (sK f j l (w64 (g+1)))) none) none) (some (.val .bool false)):=Φ
def VW (f:Nat)(l:La'):uX f l=(sK f f l 0):=Φ
def VV:aK prog CJ→FiOk prog 50 (LB):=λh=>⟨⟨f50,func50,rfl,Φ,Φ,Φ⟩,cY,ah h⟩
def CH:Ent:=sp1 (.slice aM) (λf=>yF f) λf=>.val .bool (gI f)
def SM (p:aK prog CJ)(h:∀(f:La'),yF f=true→∃g,uX g f=some (.val .bool (gI f))):am prog 50 CH:=d7 λf j=>(let ⟨_,l⟩:=h f j;aC follows (λ_ _ h=>by cases h) bI (VV p) (ds:=[⟨_,f⟩]) l)
def Iz:List (Nat×Ent):=[]
def afy:Par:=⟨iY.tab,aA Iz,λ_=>look [],λ_=>look []⟩
def afx:Code:=(f51.body).getD .skip
def SZ:Fi:=⟨afy,8,[.tmp 2],afx⟩
def yR (f:Nat)(s:La'):Option AV:=eF fi0 hs0 0 SZ [.slice aM] f [.val (.slice aM) s]
def abk (f:Nat)(s:La'):yR f s=cond (!List.isEmpty s) (cond (List.length ([]:List aM.den)+List.length s≤LIM) (some (.val (.slice aM) ([]++s))) none) none:=Φ
def abj:aK prog Iz→FiOk prog 51 (SZ):=λh=>⟨⟨f51,func51,rfl,Φ,Φ,Φ⟩,cY,ah h⟩
def Iy:Ent:=sp1 (.slice aM) (λf=>yQ f) λf=>.val (.slice aM) (idA f)
def V6 (p:aK prog Iz)(h:∀(f:La'),yQ f=true→∃g,yR g f=some (.val (.slice aM) (idA f))):am prog 51 Iy:=d7 λf j=>(let ⟨_,l⟩:=h f j;aC follows (λ_ _ h=>by cases h) bI (abj p) (ds:=[⟨_,f⟩]) l)
def Oo:List (Nat×Ent):=[(99,Iv),(98,Xk)]
def aks:Par:=⟨iY.tab,aA Oo,λ_=>look [],λ_=>look []⟩
def akr:Code:=(f97.body).getD .skip
def Yh:Fi:=⟨aks,26,[.tmp 4],akr⟩
def CP (f:Nat)(x:ak.den)(y:ak.den):Option AV:=eF fi0 hs0 0 Yh [tInt] f [.val ak x,.val ak y]
def afi (f:Nat)(x:ak.den)(y:ak.den):CP f x y=cond (adQ [pd x.1.1 y.1.1,pd x.1.2.1 y.1.2.1,pd x.2.1 y.2.1]) (some (.val tInt (orF [pd x.1.1 y.1.1,pd x.1.2.1 y.1.2.1,pd x.2.1 y.2.1]))) none:=Φ
def afh:aK prog Oo→FiOk prog 97 (Yh):=λh=>⟨⟨f97,func97,rfl,Φ,Φ,Φ⟩,cY,ah h⟩
def ES:Ent:=sp2 ak ak (λ_ _=>true) λg f=>.val tInt (jr g f)
def abc (p:aK prog Oo)(h:∀(g:ak.den) (f:ak.den),∃j,CP j g f=some (.val tInt (jr g f))):am prog 97 ES:=yg λg f _=>(let ⟨_,l⟩:=h g f;aC follows (λ_ _ h=>by cases h) bI (afh p) (ds:=[⟨_,g⟩,⟨_,f⟩]) l)
def TU:Wq:=acC ak 106 97 jr agp
def mn:MS:=⟨0,[],[(3,.mut ak 106),(7,.dat (.slice aa)),(8,.dat tInt),(9,.dat tInt)]⟩
def FF:List (Nat×Ent):=[]
def mo:Par:=⟨iY.tab,aA FF,λ_=>look [(7,mn)],λ_=>look [(3,mn)]⟩
def zr:Code:=(f52.body).getD .skip
def PH:Fi:=⟨mo,51,[.tmp 2],zr⟩
def J8:Code:=sub zr [1,1,0,1,0,0]
def B1:Code:=sub zr [1,1,1]
def Zb:Code:=sub zr [1,1,0,1,0,0,1,1,1]
def FG:KT:=br iY.tab [.tmp 2] [(.slice ak)]
def ja:Hs:=amZ [(96,TU)]
def qd (f:Nat)(n:Nat)(m:aB.den)(g:Nat)(p:Int)(l:Ld'):Option AV:=let a:=aL fi0 ja f 1;aI 0 mn (λj k=>exec a mo 0 f J8 j k) (aj 0 (aP 0 none (λj k=>exec a mo 0 f B1 j k) FG)) n ⟨mkE 51 [(3,.msl 0 0 0 g),(7,.val (.slice aa) m.1),(8,.val tInt (m.1.length:Int)),(9,.val tInt p)],mkH 1 [(0,.mrow ak 106 0 l)]⟩
def qf (f r:Nat)(m:aB.den)(p:Int)(j:Nat)(l:Ld'):Option AV:=let a:=aL fi0 ja f 1;exec a mo 0 f Zb ⟨mkE 51 [(3,.msl 0 0 0 j),(7,.val (.slice aa) m.1),(8,.val tInt (m.1.length:Int)),(9,.val tInt p)],mkH 1 [(0,.mrow ak 106 0 l)]⟩ (uG 0 mn (aI 0 mn (λg k=>exec a mo 0 f J8 g k) (aj 0 (aP 0 none (λg k=>exec a mo 0 f B1 g k) FG)) r) (aj 0 (aP 0 none (λg k=>exec a mo 0 f B1 g k) FG)))
def yf (f:Nat)(m:aB.den):Option AV:=eF fi0 ja 1 PH [.slice ak] f [.val aB m]
def I8 (j p:Nat)(m:aB.den)(g:Nat)(f:Int)(l:Ld'):qd j (p+1) m g f l=cond (f<(m.1.length:Int)) (cond (0≤f&&f<(m.1.length:Int)) (cond (az (decide ((ix aa m.1 f).2.1=2)) (decide ((ix aa m.1 f).2.1=2))&&true&&true) (cond (az (decide ((ix aa m.1 f).2.1=2)) (decide ((ix aa m.1 f).2.1=2))&&true&&true) (cond (az (decide ((ix aa m.1 f).2.1=2)) (decide ((ix aa m.1 f).2.1=2))&&true&&true) (cond (az (decide ((ix aa m.1 f).2.1=2)) (decide ((ix aa m.1 f).2.1=2))&&true) (cond (az (cond ((ix aa m.1 f).2.1=2) (!(ix aa m.1 f).2.2.1.2.2.2.1=0) false) (cond ((ix aa m.1 f).2.1=2) (!(ix aa m.1 f).2.2.1.2.2.2.1=0) false)&&true&&true) (cond (az (cond ((ix aa m.1 f).2.1=2) (!(ix aa m.1 f).2.2.1.2.2.2.1=0) false) (cond ((ix aa m.1 f).2.1=2) (!(ix aa m.1 f).2.2.1.2.2.2.1=0) false)&&true&&true) (cond (az (cond ((ix aa m.1 f).2.1=2) (!(ix aa m.1 f).2.2.1.2.2.2.1=0) false) (cond ((ix aa m.1 f).2.1=2) (!(ix aa m.1 f).2.2.1.2.2.2.1=0) false)&&true&&true) (cond (az (cond ((ix aa m.1 f).2.1=2) (!(ix aa m.1 f).2.2.1.2.2.2.1=0) false) (cond ((ix aa m.1 f).2.1=2) (!(ix aa m.1 f).2.2.1.2.2.2.1=0) false)&&true) (cond (az (cond (cond ((ix aa m.1 f).2.1=2) (!(ix aa m.1 f).2.2.1.2.2.2.1=0) false) (decide ((ix aa m.1 f).2.2.1.1≥1)) false) (cond (cond ((ix aa m.1 f).2.1=2) (!(ix aa m.1 f).2.2.1.2.2.2.1=0) false) (decide ((ix aa m.1 f).2.2.1.1≥1)) false)&&true&&true) (cond (az (cond (cond ((ix aa m.1 f).2.1=2) (!(ix aa m.1 f).2.2.1.2.2.2.1=0) false) (decide ((ix aa m.1 f).2.2.1.1≥1)) false) (cond (cond ((ix aa m.1 f).2.1=2) (!(ix aa m.1 f).2.2.1.2.2.2.1=0) false) (decide ((ix aa m.1 f).2.2.1.1≥1)) false)&&true&&true) (cond (az (cond (cond ((ix aa m.1 f).2.1=2) (!(ix aa m.1 f).2.2.1.2.2.2.1=0) false) (decide ((ix aa m.1 f).2.2.1.1≥1)) false) (cond (cond ((ix aa m.1 f).2.1=2) (!(ix aa m.1 f).2.2.1.2.2.2.1=0) false) (decide ((ix aa m.1 f).2.2.1.1≥1)) false)&&true&&true) (cond (az (cond (cond ((ix aa m.1 f).2.1=2) (!(ix aa m.1 f).2.2.1.2.2.2.1=0) false) (decide ((ix aa m.1 f).2.2.1.1≥1)) false) (cond (cond ((ix aa m.1 f).2.1=2) (!(ix aa m.1 f).2.2.1.2.2.2.1=0) false) (decide ((ix aa m.1 f).2.2.1.1≥1)) false)&&true) (cond (cond (cond (cond ((ix aa m.1 f).2.1=2) (!(ix aa m.1 f).2.2.1.2.2.2.1=0) false) ((ix aa m.1 f).2.2.1.1≥1) false) ((ix aa m.1 f).2.2.1.1≤3) false) (cond (g+List.length ([(((ix aa m.1 f).2.2.1.2.2.2.1,(ix aa m.1 f).2.2.1.1,()),(ix aa m.1 f).1,())]:List ak.den)≤LIM) (qf j p m f (g+List.length ([(((ix aa m.1 f).2.2.1.2.2.2.1,(ix aa m.1 f).2.2.1.1,()),(ix aa m.1 f).1,())]:List ak.den)) (List.take g l++[(((ix aa m.1 f).2.2.1.2.2.2.1,(ix aa m.1 f).2.2.1.1,()),(ix aa m.1 f).1,())])) none) (qf j p m f g l)) none) none) none) none) none) none) none) none) none) none) none) none) none) (cond (List.length l≤LIM&&List.all l agp) (some (.val (.slice ak) ((List.take g (List.take 0 l++gW jr ((List.take g l).drop 0)++List.drop g l)).drop 0))) none):=Φ
def zp (j p:Nat)(m:aB.den)(f:Nat)(g:Int)(l:Ld'):qd j (p+1) m f g l=cond (g<(m.1.length:Int)) (cond (0≤g&&g<(m.1.length:Int)) (cond (cond (cond (cond ((ix aa m.1 g).2.1=2) (!(ix aa m.1 g).2.2.1.2.2.2.1=0) false) ((ix aa m.1 g).2.2.1.1≥1) false) ((ix aa m.1 g).2.2.1.1≤3) false) (cond (f+List.length ([(((ix aa m.1 g).2.2.1.2.2.2.1,(ix aa m.1 g).2.2.1.1,()),(ix aa m.1 g).1,())]:List ak.den)≤LIM) (qf j p m g (f+List.length ([(((ix aa m.1 g).2.2.1.2.2.2.1,(ix aa m.1 g).2.2.1.1,()),(ix aa m.1 g).1,())]:List ak.den)) (List.take f l++[(((ix aa m.1 g).2.2.1.2.2.2.1,(ix aa m.1 g).2.2.1.1,()),(ix aa m.1 g).1,())])) none) (qf j p m g f l)) none) (cond (List.length l≤LIM&&List.all l agp) (some (.val (.slice ak) ((List.take f (List.take 0 l++gW jr ((List.take f l).drop 0)++List.drop f l)).drop 0))) none):=by simpa only[aD,bf,v_,t_,ξ,S',w_,x_,m_,u_,Int.reduceLE,Int.reduceEq,Int.reduceLT,I']using I8 j p m f g l
def zq (g p:Nat)(m:aB.den)(j:Int)(f:Nat)(l:Ld'):qf g p m j f l=(qd g p m f (w64 (j+1)) l):=Φ
def Za (f:Nat)(m:aB.den):yf f m=(qd f f m 0 0 []):=Φ
def Y9:aK prog FF→FiOk prog 52 (PH):=λh=>⟨⟨f52,func52,rfl,Φ,Φ,Φ⟩,cY,ah h⟩
def FE:Ent:=sp1 aB (λf=>Hk f) λf=>.val (.slice ak) (dZ f)
def TQ (p:aK prog FF)(r:ale prog [(96,TU)])(h:∀(f:aB.den),Hk f=true→∃g,yf g f=some (.val (.slice ak) (dZ f))):am prog 52 FE:=d7 λf j=>(let ⟨_,l⟩:=h f j;aC follows (λ_ _ h=>by cases h) (ajU r) (Y9 p) (ds:=[⟨_,f⟩]) l)
def ke:MS:=⟨3,[(0,[.drop]),(2,[.own ac 66])],[(3,.keep),(5,.dat (.slice ak))]⟩
def zO:MS:=⟨3,[(0,[.drop]),(2,[.own ac 66])],[(3,.keep),(5,.dat (.slice ak)),(6,.dat tInt)]⟩
def Kw:MS:=⟨34,[(0,[.drop]),(2,[.own ac 66]),(33,[.dat tInt,.dat tInt,.dat tInt,.own aM 72,.own tInt 3])],[(3,.keep),(5,.dat (.slice ak)),(6,.dat tInt),(7,.keep),(66,.dat (.slice ak)),(67,.dat tInt),(68,.dat tInt)]⟩
def Uz:List (Nat×Ent):=[(50,CH),(51,Iy),(53,Hi),(52,FE)]
def dA:Par:=⟨iY.tab,aA Uz,λ_=>look [(19,zO)],λ_=>look [(7,ke),(9,zO),(14,Kw)]⟩
def mP:Code:=(f30.body).getD .skip
def ac0:Fi:=⟨dA,88,[.tmp 2],mP⟩
def aht:Code:=sub mP [1,1,0,1,0,1]
def ahs:Code:=sub mP [1,1,0,1,0,0]
def ahr:Code:=sub mP [1,1,1]
def Eq:Code:=sub mP [1,1,1,1,0,0,0]
def rV:Code:=sub mP [1,1,1,1,1]
def ahq:Code:=sub mP [1,1,1,1,0,0,0,1,0,1,0,0,0]
def ahp:Code:=sub mP [1,1,1,1,0,0,0,1,0,1,1]
def aho:Code:=sub mP [1,1,1,1,0,0,0,1,0,1,1,0,1,0,1,0,1,0,0]
def ahn:Code:=sub mP [1,1,1,1,0,0,0,1,0,1,1,0,1,0,1,1]
def W7:Code:=sub mP [1,1,1,1,0,0,0,1,0,1,1,1]
def rU:List (Nat×Ent):=[]
def Ux:Par:=⟨iY.tab,aA rU,λ_=>look [],λ_=>look []⟩
def Uw:Code:=(f49.body).getD .skip
def Gg:Fi:=⟨Ux,4,[.tmp 2],Uw⟩
def zP:MS:=⟨10,[(0,[.dat (.slice ae)]),(2,[.own ac 66]),(5,[.dat (.slice ae)])],[(0,.keep),(6,.dat (.slice ae)),(7,.dat tInt),(8,.dat tInt)]⟩
def rT:List (Nat×Ent):=[]
def Ge:Par:=⟨iY.tab,aA rT,λ_=>look [],λ_=>look [(1,zP)]⟩
def Gc:Code:=(f95.body).getD .skip
def Gf:Fi:=⟨Ge,17,[],Gc⟩
def Qx:Code:=sub Gc [1,0,0]
def ub:KT:=br iY.tab [.tmp 2] [(.slice ac)]
def bL:FuncId→Option Fi:=look [(49,Gg),(95,Gf)]
def gZ (f:Nat)(n:Nat)(s:ag.den)(C:Int)(p:Lb')(l:Lc')(j:Lb'):Option AV:=let b:=aL bL hs0 f 1;let a:=mkE 88 [(0,.val ag s),(1,.box 0 0),(2,.nil),(3,.box 2 0),(10,.val ag s),(11,.fn 95 (aF [.box 5 0]))];aI 10 zP (λg k=>exec (Ec (qE bL hs0 f 0) (rP 9 b.call a [12] (λr g k=>exec b dA r f aht g (AM (λg k=>exec b dA r f ahs g k) k)))) Ge 10 f Qx g k) (aj 0 (al3 iY.tab [] (adW a (aj 0 (aP 0 none (λg k=>exec b dA 0 f ahr g k) ub))))) n ⟨mkE 17 [(0,.yld 9),(6,.val (.slice ae) s.1),(7,.val tInt (s.1.length:Int)),(8,.val tInt C)],mkH 11 [(0,.box [.val (.slice ae) p]),(2,.box [.own 10 0 ac l]),(5,.box [.val (.slice ae) j]),(9,.dead),(10,.row ac 66 0)]⟩
def rS (f:Nat)(n:Nat)(l:Ld')(g:Lc'):Option AV:=let a:=aL bL hs0 f 1;aI 0 ke (λj k=>exec a dA 0 f Eq j k) (aj 2 (aP 0 none (λj k=>exec a dA 0 f rV j k) ub)) n ⟨mkE 88 [(3,.box 2 0),(5,.val (.slice ak) l)],mkH 4 [(0,.box [.unk]),(2,.box [.own 3 0 ac g]),(3,.row ac 66 0)]⟩
def wc (f r:Nat)(n:Nat)(p:Ld')(l:Int)(j:Lc'):Option AV:=let a:=aL bL hs0 f 1;aI 0 zO (λg k=>exec a dA 0 f ahq g k) (aj 4 (aP 0 none (λg k=>exec a dA 0 f ahp g k) (aj 3 (uG 0 ke (aI 0 ke (λg k=>exec a dA 0 f Eq g k) (aj 2 (aP 0 none (λg k=>exec a dA 0 f rV g k) ub)) r) (aj 2 (aP 0 none (λg k=>exec a dA 0 f rV g k) ub)))))) n ⟨mkE 88 [(3,.box 2 0),(5,.val (.slice ak) p),(6,.val tInt l)],mkH 4 [(0,.box [.unk]),(2,.box [.own 3 0 ac j]),(3,.row ac 66 0)]⟩
def mN (f U:Nat)(n:Nat)(T:Ld')(R:Int)(P:Int)(J:Lc')(C:Int)(r:Int)(p:Int)(l:La')(j:(List Int)):Option AV:=let b:=List.take (Int.toNat R) T;let a:=aL bL hs0 f 1;aI 0 Kw (λg k=>exec a dA 0 f aho g k) (aj 6 (aP 0 none (λg k=>exec a dA 0 f ahn g k) (aP 0 (some zO) (λg k=>exec a dA 0 f W7 g k) (aj 3 (uG 0 ke (aI 0 ke (λg k=>exec a dA 0 f Eq g k) (aj 2 (aP 0 none (λg k=>exec a dA 0 f rV g k) ub)) U) (aj 2 (aP 0 none (λg k=>exec a dA 0 f rV g k) ub))))))) n ⟨mkE 88 [(3,.box 2 0),(5,.val (.slice ak) T),(6,.val tInt R),(7,.box 33 0),(66,.val (.slice ak) (b.drop 0)),(67,.val tInt ((b.drop 0).length:Int)),(68,.val tInt P)],mkH 37 [(0,.box [.unk]),(2,.box [.own 34 0 ac J]),(3,.row ac 66 1),(33,.box [.val tInt C,.val tInt r,.val tInt p,.own 35 0 aM l,.own 36 0 tInt j]),(34,.row ac 66 0),(35,.row aM 72 0),(36,.row tInt 3 0)]⟩
def mO (f r:Nat)(p:Ld')(l:Int)(j:Lc'):Option AV:=let a:=aL bL hs0 f 1;exec a dA 0 f W7 ⟨mkE 88 [(3,.box 2 0),(5,.val (.slice ak) p),(6,.val tInt l)],mkH 4 [(0,.box [.unk]),(2,.box [.own 3 0 ac j]),(3,.row ac 66 0)]⟩ (aj 3 (uG 0 ke (aI 0 ke (λg k=>exec a dA 0 f Eq g k) (aj 2 (aP 0 none (λg k=>exec a dA 0 f rV g k) ub)) r) (aj 2 (aP 0 none (λg k=>exec a dA 0 f rV g k) ub))))
def Gb (f:Nat)(s:ag.den):Option AV:=eF bL hs0 1 ac0 [.slice ac] f [.val ag s]
def ua (g p:Nat)(s:ag.den)(l:Int)(f:Lb')(j:Lc')(r:Lb'):gZ g (p+1) s l f j r=cond (l<(s.1.length:Int)) (cond (0≤l&&l<(s.1.length:Int)) (cond (yF (ix ae s.1 l).2.2.1) (cond (gI (ix ae s.1 l).2.2.1) (cond (yQ (ix ae s.1 l).2.2.1) (cond (List.length j+List.length ([(1,(ix ae s.1 l).1,(ix ae s.1 l).2.1,idA (ix ae s.1 l).2.2.1,[],())]:List ac.den)≤LIM) (gZ g p s (w64 (l+1)) f (j++[(1,(ix ae s.1 l).1,(ix ae s.1 l).2.1,idA (ix ae s.1 l).2.2.1,[],())]) r) none) none) (gZ g p s (w64 (l+1)) f j r)) none) none) (cond (stG (f,())) (cond (Hk (bh (f,()))) (rS g g (dZ (bh (f,()))) j) none) none):=Φ
def Uv (f l:Nat)(j:Ld')(g:Lc'):rS f (l+1) j g=cond ((j.length:Int)>0) (wc f l f j 1 g) (some (.val (.slice ac) g)):=Φ
def Qt (j p r:Nat)(f:Ld')(g:Int)(l:Lc'):wc j p (r+1) f g l=cond (az (decide (g<(f.length:Int))) (decide (g<(f.length:Int)))&&(az (decide (g<(f.length:Int))) (decide (g<(f.length:Int)))&&true)&&az (decide (g<(f.length:Int))) (0≤g&&g<(f.length:Int))) (cond (az (decide (g<(f.length:Int))) (decide (g<(f.length:Int)))&&true&&true) (cond (az (decide (g<(f.length:Int))) (decide (g<(f.length:Int)))&&true&&true) (cond (az (decide (g<(f.length:Int))) (decide (g<(f.length:Int)))&&true&&az (decide (g<(f.length:Int))) (0≤(0:Int)&&0<(f.length:Int))) (cond (az (decide (g<(f.length:Int))) (decide (g<(f.length:Int)))&&true&&true) (cond (az (decide (g<(f.length:Int))) (decide (g<(f.length:Int)))&&true&&true) (cond (az (decide (g<(f.length:Int))) (decide (g<(f.length:Int)))&&(az (decide (g<(f.length:Int))) (decide (g<(f.length:Int)))&&true)&&true) (cond (az (decide (g<(f.length:Int))) (decide (g<(f.length:Int)))&&true) (cond (cond (g<(f.length:Int)) (eqD ao (ix ak f g).1 (ix ak f 0).1) false) (wc j p r f (w64 (g+1)) l) (cond (g>1) (cond (0≤(0:Int)&&0<(f.length:Int)) (cond (0≤(0:Int)&&0<(f.length:Int)) (cond (0≤g&&g≤(f.length:Int)) (mN j p j f g 0 l 2 (ix ak f 0).1.1 (ix ak f 0).1.2.1 [] []) none) none) none) (mO j p f g l))) none) none) none) none) none) none) none) none:=Φ
def Uu (f p r:Nat)(g:Ld')(l:Int)(j:Lc'):wc f p (r+1) g l j=cond (az (decide (l<(g.length:Int))) (0≤l&&l<(g.length:Int))) (cond (az (decide (l<(g.length:Int))) (0≤(0:Int)&&0<(g.length:Int))) (cond (cond (l<(g.length:Int)) (eqD ao (ix ak g l).1 (ix ak g 0).1) false) (wc f p r g (w64 (l+1)) j) (cond (l>1) (cond (0≤(0:Int)&&0<(g.length:Int)) (cond (0≤(0:Int)&&0<(g.length:Int)) (cond (0≤l&&l≤(g.length:Int)) (mN f p f g l 0 j 2 (ix ak g 0).1.1 (ix ak g 0).1.2.1 [] []) none) none) none) (mO f p g l j))) none) none:=by simpa only[aD,bf,v_,t_,ξ,S',w_,x_,m_,u_,Int.reduceLE,Int.reduceEq,Int.reduceLT,I']using Qt f p r g l j
def Qu (J U T:Nat)(R:Ld')(P:Int)(r:Int)(C:Lc')(p:Int)(l:Int)(j:Int)(g:La')(f:(List Int)):mN J U (T+1) R P r C p l j g f=cond (r<(((List.take (Int.toNat P) R).drop 0).length:Int)) (cond (0≤r&&r<(((List.take (Int.toNat P) R).drop 0).length:Int)) (cond (List.length f+List.length ([(ix ak ((List.take (Int.toNat P) R).drop 0) r).2.1]:List Int)≤LIM) (mN J U T R P (w64 (r+1)) C p l j g (f++[(ix ak ((List.take (Int.toNat P) R).drop 0) r).2.1])) none) none) (cond (List.length C+List.length ([(p,l,j,g,f,())]:List ac.den)≤LIM) (mO J U R P (C++[(p,l,j,g,f,())])) none):=Φ
def Qv (f p:Nat)(l:Ld')(j:Int)(g:Lc'):mO f p l j g=cond (0≤j&&j≤(l.length:Int)) (rS f p ((List.take (List.length l) l).drop (Int.toNat j)) g) none:=Φ
def ahm (f:Nat)(s:ag.den):Gb f s=(gZ f f s 0 (s.1) [] (s.1)):=Φ
def ahl:aK prog Uz→FiOk prog 30 (ac0):=λh=>⟨⟨f30,func30,rfl,Φ,Φ,Φ⟩,cY,ah h⟩
def Qy:aK prog rU→FiOk prog 49 (Gg):=λh=>⟨⟨f49,func49,rfl,Φ,Φ,Φ⟩,cY,ah h⟩
def Qw:aK prog rT→FiOk prog 95 (Gf):=λh=>⟨⟨f95,func95,rfl,Φ,Φ,Φ⟩,cY,ah h⟩
def Zx (l:aK prog rU)(j:aK prog rT):∀f x,bL f=some x→FiOk prog f x:=λf x h=>by
 have g:=iO h;simp only[N',List.not_mem_nil,or_false,π]at g;rcases g with⟨rfl,rfl⟩|⟨rfl,rfl⟩
 ·exact Qy l
 ·exact Qw j
def Uy:Ent:=sp1 ag (λf=>W8 f) λf=>.val (.slice ac) (nV f)
def acZ (p:aK prog Uz)(C:aK prog rU)(r:aK prog rT)(h:∀(f:ag.den),W8 f=true→∃g,Gb g f=some (.val (.slice ac) (nV f))):am prog 30 Uy:=d7 λf j=>(let ⟨_,l⟩:=h f j;aC follows (Zx C r) bI (ahl p) (ds:=[⟨_,f⟩]) l)
