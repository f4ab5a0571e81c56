/- The states' layer. -/
import Derived.Test.YthfdnklcgfkjoaaGreatDoorGenH
set_option linter.all false
noncomputable section
namespace Go.Proofs.YthfdnklcgfkjoaaGreatDoor.Abs
open Go Tryz
def alW (g:FuncId)(a:Ty)(G:a.den→Bool)(R:a.den→AV):Ent:=λargs=>match args with
 |[y0,.fn g' .pnil]=>match Nat.beq g g' with
  |true=>match dat? a y0 with|some f=>some (G f,R f)|_=>none
  |false=>none
 |_=>none
variable{P:Program}{f g:FuncId}{i:Int}{l:List Cel}
def ag0 {a:Ty}{G:a.den→Bool}{R:a.den→AV}
  (h:∀l,G l=true→Callable P f∧∀w St,(∀b o,St b o→b<w.heap.size)→∀p,RAs (aX w St) [.val a l,.fn g .pnil] p→Calls P f p.toArray w (I0 w St (R l))):am P f (alW g a G R):=λargs res j=>by
 unfold alW at j;split at j
 next y0 g'=>
  split at j
  next C=>
   have C:=κ C;subst C;split at j
   ·rename_i l r;simp at j;obtain⟨h1,rfl⟩:=j;obtain⟨U,T⟩:=h l h1;refine⟨λw St p=>RAs (aX w St) [.val a l,.fn g .pnil] p,λc p hr=>?_,U,T⟩;match p,hr with
    |[J,v1],⟨r0,r1,_⟩=>exact⟨⟨J,rfl,(dat?_sound (c:=c) r r0:RepV c.w c.St a l J)⟩,EL r1,awN⟩
   ·cases j
  ·cases j
 ·cases j
def alV (g:FuncId)(a b c:Ty)(G:a.den→b.den→c.den→Bool)(R:a.den→b.den→c.den→AV):Ent:=λargs=>match args with
 |[y0,y1,y2,.fn g' .pnil]=>match Nat.beq g g' with
  |true=>match dat? a y0,dat? b y1,dat? c y2 with|some l,some j,some f=>some (G l j f,R l j f)|_,_,_=>none
  |false=>none
 |_=>none
def agY {a b c:Ty}{G:a.den→b.den→c.den→Bool}{R:a.den→b.den→c.den→AV}
  (h:∀C r p,G C r p=true→Callable P f∧∀w St,(∀b o,St b o→b<w.heap.size)→∀J,RAs (aX w St) [.val a C,.val b r,.val c p,.fn g .pnil] J→Calls P f J.toArray w (I0 w St (R C r p))):am P f (alV g a b c G R):=λargs res j=>by
 unfold alV at j;split at j
 next y0 y1 y2 g'=>
  split at j
  next hg=>
   have hg:=κ hg;subst hg;split at j
   ·rename_i C r p hx0 U T;simp at j;obtain⟨h1,rfl⟩:=j;obtain⟨k1,k2⟩:=h C r p h1;refine⟨λw St J=>RAs (aX w St) [.val a C,.val b r,.val c p,.fn g .pnil] J,λl J hr=>?_,k1,k2⟩;match J,hr with
    |[v0,v1,v2,v3],⟨r0,r1,r2,r3,_⟩=>exact⟨⟨v0,rfl,(dat?_sound (c:=l) hx0 r0:RepV l.w l.St a C v0)⟩,⟨v1,rfl,(dat?_sound (c:=l) U r1:RepV l.w l.St b r v1)⟩,⟨v2,rfl,(dat?_sound (c:=l) T r2:RepV l.w l.St c p v2)⟩,EL r3,awN⟩
   ·cases j
  ·cases j
 ·cases j
def alU (g:FuncId)(a b c d:Ty)(G:a.den→b.den→c.den→d.den→Bool)(R:a.den→b.den→c.den→d.den→AV):Ent:=λargs=>match args with
 |[y0,y1,y2,y3,.fn g' .pnil]=>match Nat.beq g g' with
  |true=>match dat? a y0,dat? b y1,dat? c y2,dat? d y3 with|some p,some l,some j,some f=>some (G p l j f,R p l j f)|_,_,_,_=>none
  |false=>none
 |_=>none
def WK {a b c d:Ty}{G:a.den→b.den→c.den→d.den→Bool}{R:a.den→b.den→c.den→d.den→AV}
  (h:∀J C r p,G J C r p=true→Callable P f∧∀w St,(∀b o,St b o→b<w.heap.size)→∀T,RAs (aX w St) [.val a J,.val b C,.val c r,.val d p,.fn g .pnil] T→Calls P f T.toArray w (I0 w St (R J C r p))):am P f (alU g a b c d G R):=λargs res l=>by
 unfold alU at l;split at l
 next y0 y1 y2 y3 g'=>
  split at l
  next hg=>
   have hg:=κ hg;subst hg;split at l
   ·rename_i J C r p hx0 hx1 hx2 U;simp at l;obtain⟨h1,rfl⟩:=l;obtain⟨k1,k2⟩:=h J C r p h1;refine⟨λw St T=>RAs (aX w St) [.val a J,.val b C,.val c r,.val d p,.fn g .pnil] T,λj T hr=>?_,k1,k2⟩;match T,hr with
    |[v0,v1,v2,v3,v4],⟨r0,r1,r2,r3,r4,_⟩=>exact⟨⟨v0,rfl,(dat?_sound (c:=j) hx0 r0:RepV j.w j.St a J v0)⟩,⟨v1,rfl,(dat?_sound (c:=j) hx1 r1:RepV j.w j.St b C v1)⟩,⟨v2,rfl,(dat?_sound (c:=j) hx2 r2:RepV j.w j.St c r v2)⟩,⟨v3,rfl,(dat?_sound (c:=j) U r3:RepV j.w j.St d p v3)⟩,EL r4,awN⟩
   ·cases l
  ·cases l
 ·cases l
def f8 (a b:ao.den):Int:=eU (qP a.1 b.1) (qP a.2.1 b.2.1)
def pP (x:Cel)(t:ao.den):Int:=f8 (x.1,x.2.1,()) t
def kK (x y:Cel):Int:=f8 (x.1,x.2.1,()) (y.1,y.2.1,())
def ig (a b:Cel):Prop:=ahd a.1 a.2.1 b.1 b.2.1=true
instance celDec (a b:Cel):Decidable (ig a b):=inferInstanceAs (Decidable (_=true))
def CU (l:List Cel):Bool:=l.length≤1048576&&l.Pairwise ig
def JB (l:List Cel)(_:ao.den):Bool:=CU l
def pre (l:List Cel)(t:ao.den):Nat:=(l.takeWhile λc=>ahd c.1 c.2.1 t.1 t.2.1).length
def atF (t:ao.den):List Cel→Bool
 |c::_=>decide (c.1=t.1)&&decide (c.2.1=t.2.1)
 |[]=>false
def nG (l:List Cel)(t:ao.den):Int×Bool×Unit:=((pre l t:Int),atF t (l.drop (pre l t)),())
def RE (l:List Cel)(a b:Int):Bool:=CU l&&(decide (0≤a)&&decide (a≤b)&&decide (b≤(l.length:Int)))
def ye (d:Nat)(l:List Cel)(a m b:Int):Bool:=CU l&&(decide (0≤a)&&decide (a<m)&&decide (m<b)&&decide (b≤(l.length:Int))&&decide (b-a≤(d:Int)))
def FH (l:List Cel)(n:Int):Bool:=CU l&&decide (n=(l.length:Int))
def aoy (l:List Cel):Bool:=decide (l.length≤1048576)
def idC (l:List Cel):List Cel:=l
def aov (_:List Cel):Unit:=()
def lW (w:Cel)(s:Int):Slt:=(w.1,w.2.1,[(s,w.2.2.1,())],())
open Go Tryz
def yc:TabL:={
 ty:=[(3,tInt),(4,.bool),(9,.str),(31,(.slice aa)),(39,(.slice tInt)),(56,aW),(58,aa),(64,(.slice aM)),(72,aM),(90,ae),(108,ao),(150,(.int .u64))],
 cells:=[(3,1),(4,1),(9,1),(31,1),(39,1),(56,4),(58,6),(64,1),(72,5),(90,3),(108,2),(125,1),(150,1),(162,1)],
 offs:=[((56,0),0),((56,1),1),((56,2),2),((56,3),3),((58,0),0),((58,1),1),((58,2),2),((72,0),0),((72,1),1),((90,0),0),((90,1),1),((90,2),2),((108,0),0),((108,1),1)],
 one:=[],
 elem:=[(31,58),(39,3),(64,72)] }
def gC:TabOk prog yc.tab:=TabL.ok Φ
def GV (x:ae.den):ao.den:=(x.1,x.2.1,())
def wq:List (Nat×Ent):=[]
def ZT:Par:=⟨yc.tab,aA wq,λ_=>look [],λ_=>look []⟩
def ZS:Code:=(f55.body).getD .skip
def KL:Fi:=⟨ZT,8,[.cell 2 108],ZS⟩
def DA (f:Nat)(x:ae.den):Option AV:=eF fi0 hs0 0 KL [ao] f [.val ae x]
def U0 (f:Nat)(x:ae.den):DA f x=some (.val ao (x.1,x.2.1,())):=Φ
def UZ:aK prog wq→FiOk prog 55 (KL):=λh=>⟨⟨f55,func55,rfl,Φ,Φ,Φ⟩,gC,ah h⟩
def wo:Ent:=sp1 ae (λ_=>true) (λf=>.val ao (GV f))
def Q2 (l:aK prog wq)(h:∀(f:ae.den),∃g,DA g f=some (.val ao (GV f))):am prog 55 wo:=d7 λf _=>(let ⟨_,j⟩:=h f;aC follows (λ_ _ h=>by cases h) bI (UZ l) (ds:=[⟨_,f⟩]) j)
def Q3 (f:aK prog wq):am prog 55 wo:=Q2 f (λx=>⟨0,by rw[U0];first|rfl|(simp only[gA];rfl)⟩)
def eG (x:aa.den):ao.den:=(x.1,x.2.1,())
def wu:List (Nat×Ent):=[]
def ZV:Par:=⟨yc.tab,aA wu,λ_=>look [],λ_=>look []⟩
def ZU:Code:=(f57.body).getD .skip
def KM:Fi:=⟨ZV,8,[.cell 2 108],ZU⟩
def DB (f:Nat)(x:aa.den):Option AV:=eF fi0 hs0 0 KM [ao] f [.val aa x]
def U2 (f:Nat)(x:aa.den):DB f x=some (.val ao (x.1,x.2.1,())):=Φ
def U1:aK prog wu→FiOk prog 57 (KM):=λh=>⟨⟨f57,func57,rfl,Φ,Φ,Φ⟩,gC,ah h⟩
def jg:Ent:=sp1 aa (λ_=>true) (λf=>.val ao (eG f))
def Q4 (l:aK prog wu)(h:∀(f:aa.den),∃g,DB g f=some (.val ao (eG f))):am prog 57 jg:=d7 λf _=>(let ⟨_,j⟩:=h f;aC follows (λ_ _ h=>by cases h) bI (U1 l) (ds:=[⟨_,f⟩]) j)
def Q6 (f:aK prog wu):am prog 57 jg:=Q4 f (λx=>⟨0,by rw[U2];first|rfl|(simp only[gA];rfl)⟩)
def Iu:List (Nat×Ent):=[(99,Iv),(98,Xk)]
def afl:Par:=⟨yc.tab,aA Iu,λ_=>look [],λ_=>look []⟩
def afk:Code:=(f56.body).getD .skip
def SW:Fi:=⟨afl,17,[.tmp 4],afk⟩
def yP (f:Nat)(a:ao.den)(b:ao.den):Option AV:=eF fi0 hs0 0 SW [tInt] f [.val ao a,.val ao b]
def abe (f:Nat)(a:ao.den)(b:ao.den):yP f a b=cond (adQ [pd a.1 b.1,pd a.2.1 b.2.1]) (some (.val tInt (orF [pd a.1 b.1,pd a.2.1 b.2.1]))) none:=Φ
def abd:aK prog Iu→FiOk prog 56 (SW):=λh=>⟨⟨f56,func56,rfl,Φ,Φ,Φ⟩,gC,ah h⟩
def u4:Ent:=sp2 ao ao (λ_ _=>true) λg f=>.val tInt (f8 g f)
def V4 (p:aK prog Iu)(h:∀(g:ao.den) (f:ao.den),∃j,yP j g f=some (.val tInt (f8 g f))):am prog 56 u4:=yg λg f _=>(let ⟨_,l⟩:=h g f;aC follows (λ_ _ h=>by cases h) bI (abd p) (ds:=[⟨_,g⟩,⟨_,f⟩]) l)
def Ow:List (Nat×Ent):=[(57,jg),(56,u4)]
def akz:Par:=⟨yc.tab,aA Ow,λ_=>look [],λ_=>look []⟩
def aky:Code:=(f104.body).getD .skip
def Yl:Fi:=⟨akz,9,[.tmp 4],aky⟩
def LM (f:Nat)(x:aa.den)(g:ao.den):Option AV:=eF fi0 hs0 0 Yl [tInt] f [.val aa x,.val ao g]
def aft (f:Nat)(x:aa.den)(g:ao.den):LM f x g=some (.val tInt (f8 (eG x) g)):=Φ
def afs:aK prog Ow→FiOk prog 104 (Yl):=λh=>⟨⟨f104,func104,rfl,Φ,Φ,Φ⟩,gC,ah h⟩
def Ov:Ent:=sp2 aa ao (λ_ _=>true) λg f=>.val tInt (pP g f)
def abg (p:aK prog Ow)(h:∀(g:aa.den) (f:ao.den),∃j,LM j g f=some (.val tInt (pP g f))):am prog 104 Ov:=yg λg f _=>(let ⟨_,l⟩:=h g f;aC follows (λ_ _ h=>by cases h) bI (afs p) (ds:=[⟨_,g⟩,⟨_,f⟩]) l)
def Ot:List (Nat×Ent):=[(57,jg),(56,u4)]
def aku:Par:=⟨yc.tab,aA Ot,λ_=>look [],λ_=>look []⟩
def akt:Code:=(f102.body).getD .skip
def Yj:Fi:=⟨aku,10,[.tmp 4],akt⟩
def LL (f:Nat)(x:aa.den)(y:aa.den):Option AV:=eF fi0 hs0 0 Yj [tInt] f [.val aa x,.val aa y]
def afn (f:Nat)(x:aa.den)(y:aa.den):LL f x y=some (.val tInt (f8 (eG x) (eG y))):=Φ
def afm:aK prog Ot→FiOk prog 102 (Yj):=λh=>⟨⟨f102,func102,rfl,Φ,Φ,Φ⟩,gC,ah h⟩
def ET:Ent:=sp2 aa aa (λ_ _=>true) λg f=>.val tInt (kK g f)
def abf (p:aK prog Ot)(h:∀(g:aa.den) (f:aa.den),∃j,LL j g f=some (.val tInt (kK g f))):am prog 102 ET:=yg λg f _=>(let ⟨_,l⟩:=h g f;aC follows (λ_ _ h=>by cases h) bI (afm p) (ds:=[⟨_,g⟩,⟨_,f⟩]) l)
def Yq:MS:=⟨1,[(0,[.dat tInt,.dat tInt])],[(0,.dat (.slice aa)),(2,.keep),(4,.keep),(8,.dat tInt),(9,.dat tInt),(10,.dat tInt)]⟩
def af6:List (Nat×Ent):=[(104,Ov)]
def af7:Par:=⟨yc.tab,aA af6,λ_=>look [],λ_=>look [(3,Yq)]⟩
def af5:Code:=(f103.body).getD .skip
def alA:Fi:=⟨af7,49,[.tmp 6,.tmp 7],af5⟩
def anV:Code:=sub af5 [1,1,1,0,0,0]
def anU:Code:=sub af5 [1,1,1,1]
def aoL:KT:=br yc.tab [.tmp 6,.tmp 7] [tInt,.bool]
def u9 (g:Nat)(n:Nat)(x:(List aa.den))(f:ao.den)(i:Int)(j:Int):Option AV:=aI 0 Yq (λl k=>exec (aL fi0 hs0 g 0) af7 0 g anV l k) (aj 0 (aP 0 none (λl k=>exec (aL fi0 hs0 g 0) af7 0 g anU l k) aoL)) n ⟨mkE 49 [(0,.val (.slice aa) x),(2,.fn 104 (aF [])),(4,.box 0 0),(8,.val tInt (x.length:Int)),(9,.val tInt i),(10,.val tInt j)],mkH 1 [(0,.box [.val tInt f.1,.val tInt f.2.1])]⟩
def OC (g:Nat)(x:(List aa.den))(f:ao.den):Option AV:=eF fi0 hs0 0 alA [tInt,.bool] g [.val (.slice aa) x,.val ao f,.fn 104 .pnil]
def Wb (g l:Nat)(x:(List aa.den))(f:ao.den)(i:Int)(j:Int):u9 g (l+1) x f i j=cond (i<j) (cond (0≤(1:Int)) (cond (0≤w64 (aV .u64 (IntKind.wrap .u64 (w64 (i+j))) 1)&&w64 (aV .u64 (IntKind.wrap .u64 (w64 (i+j))) 1)<(x.length:Int)) (cond (pP (ix aa x (w64 (aV .u64 (IntKind.wrap .u64 (w64 (i+j))) 1))) f<0) (u9 g l x f (w64 (w64 (aV .u64 (IntKind.wrap .u64 (w64 (i+j))) 1)+1)) j) (u9 g l x f i (w64 (aV .u64 (IntKind.wrap .u64 (w64 (i+j))) 1)))) none) none) (cond (az (decide (i<(x.length:Int))) (decide (i<(x.length:Int)))&&(az (decide (i<(x.length:Int))) (decide (i<(x.length:Int)))&&true)&&az (decide (i<(x.length:Int))) (0≤i&&i<(x.length:Int))) (cond (az (decide (i<(x.length:Int))) (decide (i<(x.length:Int)))&&true&&true) (cond (az (decide (i<(x.length:Int))) (decide (i<(x.length:Int)))&&(az (decide (i<(x.length:Int))) (decide (i<(x.length:Int)))&&(az (decide (i<(x.length:Int))) (decide (i<(x.length:Int)))&&true))&&true) (cond (az (decide (i<(x.length:Int))) (decide (i<(x.length:Int)))&&true&&true) (cond (az (decide (i<(x.length:Int))) (decide (i<(x.length:Int)))&&true) (some (.tup (aF [.val tInt i,.val .bool (cond (i<(x.length:Int)) (decide (pP (ix aa x i) f=0)) false)]))) none) none) none) none) none):=Φ
def abq (g l:Nat)(x:(List aa.den))(f:ao.den)(i:Int)(j:Int):u9 g (l+1) x f i j=cond (i<j) (cond (0≤w64 (aV .u64 (IntKind.wrap .u64 (w64 (i+j))) 1)&&w64 (aV .u64 (IntKind.wrap .u64 (w64 (i+j))) 1)<(x.length:Int)) (cond (pP (ix aa x (w64 (aV .u64 (IntKind.wrap .u64 (w64 (i+j))) 1))) f<0) (u9 g l x f (w64 (w64 (aV .u64 (IntKind.wrap .u64 (w64 (i+j))) 1)+1)) j) (u9 g l x f i (w64 (aV .u64 (IntKind.wrap .u64 (w64 (i+j))) 1)))) none) (cond (az (decide (i<(x.length:Int))) (0≤i&&i<(x.length:Int))) (some (.tup (aF [.val tInt i,.val .bool (cond (i<(x.length:Int)) (decide (pP (ix aa x i) f=0)) false)]))) none):=by simpa only[aD,bf,v_,t_,ξ,S',w_,x_,m_,u_,Int.reduceLE,Int.reduceEq,Int.reduceLT,I']using Wb g l x f i j
def anT (g:Nat)(x:(List aa.den))(f:ao.den):OC g x f=(u9 g g x f 0 (x.length:Int)):=Φ
def anS:aK prog af6→FiOk prog 103 (alA):=λh=>⟨⟨f103,func103,rfl,Φ,Φ,Φ⟩,gC,ah h⟩
def af4:Ent:=agZ 104 (.slice aa) ao (λg f=>JB g f) λg f=>.tup (aF [.val tInt (nG g f).1,.val .bool (nG g f).2.1])
def akW (r:aK prog af6)(h:∀(g:(List aa.den)) (f:ao.den),JB g f=true→∃j,OC j g f=some (.tup (aF [.val tInt ((nG g f).1),.val .bool ((nG g f).2.1)]))):am prog 103 af4:=WL λg f l=>(let ⟨_,p⟩:=h g f l;eM follows (λ_ _ h=>by cases h) bI (anS r) p)
def N6:List (Nat×Ent):=[(103,af4)]
def aj0:Par:=⟨yc.tab,aA N6,λ_=>look [],λ_=>look []⟩
def ajZ:Code:=(f59.body).getD .skip
def XZ:Fi:=⟨aj0,11,[.tmp 4,.tmp 5],ajZ⟩
def CD (g:Nat)(f:(List aa.den))(j:ao.den):Option AV:=eF fi0 hs0 0 XZ [tInt,.bool] g [.val (.slice aa) f,.val ao j]
def aeA (g:Nat)(f:(List aa.den))(j:ao.den):CD g f j=cond (JB f j) (some (.tup (aF [.val tInt (nG f j).1,.val .bool (nG f j).2.1]))) none:=Φ
def aez:aK prog N6→FiOk prog 59 (XZ):=λh=>⟨⟨f59,func59,rfl,Φ,Φ,Φ⟩,gC,ah h⟩
def N3:Ent:=sp2 (.slice aa) ao (λg f=>JB g f) λg f=>.tup (aF [.val tInt (nG g f).1,.val .bool (nG g f).2.1])
def aaS (r:aK prog N6)(h:∀(g:(List aa.den)) (f:ao.den),JB g f=true→∃j,CD j g f=some (.tup (aF [.val tInt ((nG g f).1),.val .bool ((nG g f).2.1)]))):am prog 59 N3:=yg λg f l=>(let ⟨_,p⟩:=h g f l;aC follows (λ_ _ h=>by cases h) bI (aez r) (ds:=[⟨_,g⟩,⟨_,f⟩]) p)
def AR:MS:=⟨0,[],[(0,.dat (.slice aa)),(1,.dat tInt),(2,.dat tInt),(3,.keep),(8,.dat tInt)]⟩
def RG:MS:=⟨0,[],[(0,.dat (.slice aa)),(1,.dat tInt),(2,.dat tInt),(3,.keep),(8,.dat tInt),(9,.dat tInt)]⟩
def Vr:List (Nat×Ent):=[(102,ET)]
def HD:Par:=⟨yc.tab,aA Vr,λ_=>look [],λ_=>look [(1,AR),(4,RG)]⟩
def NP:Code:=(f140.body).getD .skip
def ad6:Fi:=⟨HD,53,[],NP⟩
def XU:Code:=sub NP [1,0,0]
def ajS:Code:=sub NP [1,0,0,1,0,0,1,0,0]
def ajR:Code:=sub NP [1,0,0,1,1]
def fE:KT:=br yc.tab [] []
def AS (f:Nat)(n:Nat)(data:(List aa.den))(a:Int)(b:Int)(i:Int):Option AV:=aI 0 AR (λg k=>exec (aL fi0 hs0 f 0) HD 0 f XU g k) (aj 0 fE) n ⟨mkE 53 [(0,.val (.slice aa) data),(1,.val tInt a),(2,.val tInt b),(3,.fn 102 (aF [])),(8,.val tInt i)],mkH 0 []⟩
def NO (f l:Nat)(n:Nat)(data:(List aa.den))(a:Int)(b:Int)(i:Int)(j:Int):Option AV:=aI 0 RG (λg k=>exec (aL fi0 hs0 f 0) HD 0 f ajS g k) (aj 2 (aj 1 (aP 0 none (λg k=>exec (aL fi0 hs0 f 0) HD 0 f ajR g k) (uG 0 AR (aI 0 AR (λg k=>exec (aL fi0 hs0 f 0) HD 0 f XU g k) (aj 0 fE) l) (aj 0 fE))))) n ⟨mkE 53 [(0,.val (.slice aa) data),(1,.val tInt a),(2,.val tInt b),(3,.fn 102 (aF [])),(8,.val tInt i),(9,.val tInt j)],mkH 0 []⟩
def HC (f:Nat)(data:(List aa.den))(a:Int)(b:Int):Option AV:=eF fi0 hs0 0 ad6 [] f [.val (.slice aa) data,.val tInt a,.val tInt b,.fn 102 .pnil]
def Vp (f g:Nat)(data:(List aa.den))(a:Int)(b:Int)(i:Int):AS f (g+1) data a b i=cond (i<b) (NO f g f data a b i i) (some (.tup (aF []))):=Φ
def RH (f g l:Nat)(data:(List aa.den))(a:Int)(b:Int)(i:Int)(j:Int):NO f g (l+1) data a b i j=cond (az (decide (j>a)) (decide (j>a))&&(az (decide (j>a)) (decide (j>a))&&true)&&az (decide (j>a)) (0≤j&&j<(data.length:Int))) (cond (az (decide (j>a)) (decide (j>a))&&true&&true) (cond (az (decide (j>a)) (decide (j>a))&&true&&true) (cond (az (decide (j>a)) (decide (j>a))&&(az (decide (j>a)) (decide (j>a))&&true)&&az (decide (j>a)) (0≤w64 (j-1)&&w64 (j-1)<(data.length:Int))) (cond (az (decide (j>a)) (decide (j>a))&&true&&true) (cond (az (decide (j>a)) (decide (j>a))&&(az (decide (j>a)) (decide (j>a))&&(az (decide (j>a)) (decide (j>a))&&true))&&true) (cond (az (decide (j>a)) (decide (j>a))&&true&&true) (cond (az (decide (j>a)) (decide (j>a))&&true) (cond (cond (j>a) (kK (ix aa data j) (ix aa data (w64 (j-1)))<0) false) none (AS f g data a b (w64 (i+1)))) none) none) none) none) none) none) none) none:=Φ
def Vo (f g l:Nat)(data:(List aa.den))(a:Int)(b:Int)(i:Int)(j:Int):NO f g (l+1) data a b i j=cond (az (decide (j>a)) (0≤j&&j<(data.length:Int))) (cond (az (decide (j>a)) (0≤w64 (j-1)&&w64 (j-1)<(data.length:Int))) (cond (cond (j>a) (kK (ix aa data j) (ix aa data (w64 (j-1)))<0) false) none (AS f g data a b (w64 (i+1)))) none) none:=by simpa only[aD,bf,v_,t_,ξ,S',w_,x_,m_,u_,Int.reduceLE,Int.reduceEq,Int.reduceLT,I']using RH f g l data a b i j
def ajQ (f:Nat)(data:(List aa.den))(a:Int)(b:Int):HC f data a b=(AS f f data a b (w64 (a+1))):=Φ
def ajP:aK prog Vr→FiOk prog 140 (ad6):=λh=>⟨⟨f140,func140,rfl,Φ,Φ,Φ⟩,gC,ah h⟩
def Vq:Ent:=alV 102 (.slice aa) tInt tInt (λj g f=>RE j g f) λj g f=>.tup (aF [])
def ad5 (C:aK prog Vr)(h:∀(l:(List aa.den)) (j:Int) (g:Int),RE l j g=true→∃f,HC f l j g=some (.tup (aF []))):am prog 140 Vq:=agY λl j g p=>(let ⟨_,r⟩:=h l j g p;eM follows (λ_ _ h=>by cases h) bI (ajP C) r)
def Pz:MS:=⟨0,[],[(0,.dat (.slice aa)),(1,.dat tInt),(4,.keep),(10,.dat tInt),(11,.dat tInt)]⟩
def J7:MS:=⟨0,[],[(0,.dat (.slice aa)),(2,.dat tInt),(4,.keep),(14,.dat tInt),(15,.dat tInt)]⟩
def Py:MS:=⟨0,[],[(0,.dat (.slice aa)),(10,.dat tInt),(13,.dat tInt)]⟩
def J6:MS:=⟨0,[],[(0,.dat (.slice aa)),(14,.dat tInt),(17,.dat tInt)]⟩
def J5:MS:=⟨0,[],[(0,.dat (.slice aa)),(1,.dat tInt),(2,.dat tInt),(3,.dat tInt),(4,.keep),(18,.dat tInt),(19,.dat tInt),(20,.dat tInt),(21,.dat tInt),(22,.dat tInt)]⟩
def Y4:MS:=⟨0,[],[(0,.dat (.slice aa)),(1,.dat tInt),(2,.dat tInt),(3,.dat tInt),(4,.keep),(18,.dat tInt),(19,.dat tInt),(20,.dat tInt),(21,.dat tInt)]⟩
def Y3:MS:=⟨0,[],[(0,.dat (.slice aa)),(1,.dat tInt),(3,.dat tInt),(4,.keep),(18,.dat tInt),(20,.dat tInt),(24,.dat tInt)]⟩
def Y2:MS:=⟨0,[],[(0,.dat (.slice aa)),(3,.dat tInt),(4,.keep),(18,.dat tInt),(24,.dat tInt)]⟩
def Mt (d:Nat):Ent:=alU 102 (.slice aa) tInt tInt tInt (λl j g f=>ye d l j g f) λl j g f=>.tup (aF [])
def TO (d:Nat):List (Nat×Ent):=[(102,ET),(186,(Mt d))]
def eS (d:Nat):Par:=⟨yc.tab,aA (TO d),λ_=>look [(32,Y4),(41,Y3),(43,Y2)],λ_=>look [(3,Pz),(15,J7),(9,Py),(21,J6),(33,J5)]⟩
def ge:Code:=(f186.body).getD .skip
def acf (d:Nat):Fi:=⟨(eS d),220,[],ge⟩
def agU:Code:=sub ge [0,1,0,1,1,0,0,0]
def agT:Code:=sub ge [0,1,0,1,1,1]
def WG:Code:=sub ge [1]
def agS:Code:=sub ge [1,0,1,0,1,1,0,0,0]
def agR:Code:=sub ge [1,0,1,0,1,1,1]
def WF:Code:=sub ge [1,1]
def agQ:Code:=sub ge [1,1,1,1,1,1]
def agP:Code:=sub ge [0,1,0,1,1,1,0,1,0,0]
def agO:Code:=sub ge [0,1,0,1,1,1,1]
def agN:Code:=sub ge [1,0,1,0,1,1,1,0,1,0,0]
def ace:Code:=sub ge [1,0,1,0,1,1,1,1]
def acd:Code:=sub ge [1,1,1,1,1,1,1,0,0,0]
def acb:Code:=sub ge [1,1,1,1,1,1,1,1]
def aca:Code:=sub ge [1,1,1,1,1,1,1,1,1,1]
def ab9:Code:=sub ge [1,1,1,1,1,1,1,1,1,1,1]
def kW (d:Nat)(f:Nat)(n:Nat)(data:(List aa.den))(a:Int)(i:Int)(j:Int):Option AV:=aI 0 Pz (λg k=>exec (aL fi0 hs0 f 0) (eS d) 0 f agU g k) (aj 0 (aP 0 none (λg k=>exec (aL fi0 hs0 f 0) (eS d) 0 f agT g k) (aP 0 none (λg k=>exec (aL fi0 hs0 f 0) (eS d) 0 f WG g k) fE))) n ⟨mkE 220 [(0,.val (.slice aa) data),(1,.val tInt a),(4,.fn 102 (aF [])),(10,.val tInt i),(11,.val tInt j)],mkH 0 []⟩
def iB (d:Nat)(f:Nat)(n:Nat)(data:(List aa.den))(m:Int)(i:Int)(j:Int):Option AV:=aI 0 J7 (λg k=>exec (aL fi0 hs0 f 0) (eS d) 0 f agS g k) (aj 4 (aP 0 none (λg k=>exec (aL fi0 hs0 f 0) (eS d) 0 f agR g k) (aP 0 none (λg k=>exec (aL fi0 hs0 f 0) (eS d) 0 f WF g k) fE))) n ⟨mkE 220 [(0,.val (.slice aa) data),(2,.val tInt m),(4,.fn 102 (aF [])),(14,.val tInt i),(15,.val tInt j)],mkH 0 []⟩
def tC (d:Nat)(f:Nat)(data:(List aa.den))(a:Int)(m:Int)(b:Int)(start:Int)(r:Int):Option AV:=exec (aL fi0 hs0 f 0) (eS d) 0 f agQ ⟨mkE 220 [(0,.val (.slice aa) data),(1,.val tInt a),(2,.val tInt m),(3,.val tInt b),(4,.fn 102 (aF [])),(18,.val tInt (w64 (aV .u64 (IntKind.wrap .u64 (w64 (a+b))) 1))),(19,.val tInt (w64 (w64 (aV .u64 (IntKind.wrap .u64 (w64 (a+b))) 1)+m))),(20,.val tInt start),(21,.val tInt r)],mkH 0 []⟩ fE
def Mo (d:Nat)(f:Nat)(n:Nat)(data:(List aa.den))(i:Int)(j:Int):Option AV:=aI 0 Py (λg k=>exec (aL fi0 hs0 f 0) (eS d) 0 f agP g k) (aj 2 (aP 0 none (λg k=>exec (aL fi0 hs0 f 0) (eS d) 0 f agO g k) (aP 0 none (λg k=>exec (aL fi0 hs0 f 0) (eS d) 0 f WG g k) fE))) n ⟨mkE 220 [(0,.val (.slice aa) data),(10,.val tInt i),(13,.val tInt j)],mkH 0 []⟩
def Fw (d:Nat)(f:Nat)(n:Nat)(data:(List aa.den))(i:Int)(j:Int):Option AV:=aI 0 J6 (λg k=>exec (aL fi0 hs0 f 0) (eS d) 0 f agN g k) (aj 6 (aP 0 none (λg k=>exec (aL fi0 hs0 f 0) (eS d) 0 f ace g k) (aP 0 none (λg k=>exec (aL fi0 hs0 f 0) (eS d) 0 f WF g k) fE))) n ⟨mkE 220 [(0,.val (.slice aa) data),(14,.val tInt i),(17,.val tInt j)],mkH 0 []⟩
def jQ (d:Nat)(f:Nat)(n:Nat)(data:(List aa.den))(a:Int)(m:Int)(b:Int)(start:Int)(r:Int):Option AV:=aI 0 J5 (λg k=>exec (aL fi0 hs0 f 0) (eS d) 0 f acd g k) (aj 8 (aP 0 none (λg k=>exec (aL fi0 hs0 f 0) (eS d) 0 f acb g k) fE)) n ⟨mkE 220 [(0,.val (.slice aa) data),(1,.val tInt a),(2,.val tInt m),(3,.val tInt b),(4,.fn 102 (aF [])),(18,.val tInt (w64 (aV .u64 (IntKind.wrap .u64 (w64 (a+b))) 1))),(19,.val tInt (w64 (w64 (aV .u64 (IntKind.wrap .u64 (w64 (a+b))) 1)+m))),(20,.val tInt start),(21,.val tInt r),(22,.val tInt (w64 (w64 (w64 (aV .u64 (IntKind.wrap .u64 (w64 (a+b))) 1)+m)-1)))],mkH 0 []⟩
def tB (d:Nat)(f:Nat)(data:(List aa.den))(a:Int)(b:Int)(start:Int)(m:Int):Option AV:=exec (aL fi0 hs0 f 0) (eS d) 0 f aca ⟨mkE 220 [(0,.val (.slice aa) data),(1,.val tInt a),(3,.val tInt b),(4,.fn 102 (aF [])),(18,.val tInt (w64 (aV .u64 (IntKind.wrap .u64 (w64 (a+b))) 1))),(20,.val tInt start),(24,.val tInt (w64 (w64 (w64 (aV .u64 (IntKind.wrap .u64 (w64 (a+b))) 1)+m)-start)))],mkH 0 []⟩ fE
def mj (d:Nat)(f:Nat)(data:(List aa.den))(b:Int)(a:Int)(m:Int)(start:Int):Option AV:=exec (aL fi0 hs0 f 0) (eS d) 0 f ab9 ⟨mkE 220 [(0,.val (.slice aa) data),(3,.val tInt b),(4,.fn 102 (aF [])),(18,.val tInt (w64 (aV .u64 (IntKind.wrap .u64 (w64 (a+b))) 1))),(24,.val tInt (w64 (w64 (w64 (aV .u64 (IntKind.wrap .u64 (w64 (a+b))) 1)+m)-start)))],mkH 0 []⟩ fE
def zm (d:Nat)(f:Nat)(data:(List aa.den))(a:Int)(m:Int)(b:Int):Option AV:=eF fi0 hs0 0 (acf d) [] f [.val (.slice aa) data,.val tInt a,.val tInt m,.val tInt b,.fn 102 .pnil]
def PA (d:Nat)(f g:Nat)(data:(List aa.den))(a:Int)(i:Int)(j:Int):kW d f (g+1) data a i j=cond (i<j) (cond (0≤(1:Int)) (cond (0≤w64 (aV .u64 (IntKind.wrap .u64 (w64 (i+j))) 1)&&w64 (aV .u64 (IntKind.wrap .u64 (w64 (i+j))) 1)<(data.length:Int)) (cond (0≤a&&a<(data.length:Int)) (cond (kK (ix aa data (w64 (aV .u64 (IntKind.wrap .u64 (w64 (i+j))) 1))) (ix aa data a)<0) (kW d f g data a (w64 (w64 (aV .u64 (IntKind.wrap .u64 (w64 (i+j))) 1)+1)) j) (kW d f g data a i (w64 (aV .u64 (IntKind.wrap .u64 (w64 (i+j))) 1)))) none) none) none) (Mo d f f data i a):=Φ
def TN (d:Nat)(f g:Nat)(data:(List aa.den))(a:Int)(i:Int)(j:Int):kW d f (g+1) data a i j=cond (i<j) (cond (0≤w64 (aV .u64 (IntKind.wrap .u64 (w64 (i+j))) 1)&&w64 (aV .u64 (IntKind.wrap .u64 (w64 (i+j))) 1)<(data.length:Int)) (cond (0≤a&&a<(data.length:Int)) (cond (kK (ix aa data (w64 (aV .u64 (IntKind.wrap .u64 (w64 (i+j))) 1))) (ix aa data a)<0) (kW d f g data a (w64 (w64 (aV .u64 (IntKind.wrap .u64 (w64 (i+j))) 1)+1)) j) (kW d f g data a i (w64 (aV .u64 (IntKind.wrap .u64 (w64 (i+j))) 1)))) none) none) (Mo d f f data i a):=by simpa only[aD,bf,v_,t_,ξ,S',w_,x_,m_,u_,Int.reduceLE,Int.reduceEq,Int.reduceLT,I']using PA d f g data a i j
def Mq (d:Nat)(f g:Nat)(data:(List aa.den))(m:Int)(i:Int)(j:Int):iB d f (g+1) data m i j=cond (i<j) (cond (0≤(1:Int)) (cond (0≤m&&m<(data.length:Int)) (cond (0≤w64 (aV .u64 (IntKind.wrap .u64 (w64 (i+j))) 1)&&w64 (aV .u64 (IntKind.wrap .u64 (w64 (i+j))) 1)<(data.length:Int)) (cond (!kK (ix aa data m) (ix aa data (w64 (aV .u64 (IntKind.wrap .u64 (w64 (i+j))) 1)))<0) (iB d f g data m (w64 (w64 (aV .u64 (IntKind.wrap .u64 (w64 (i+j))) 1)+1)) j) (iB d f g data m i (w64 (aV .u64 (IntKind.wrap .u64 (w64 (i+j))) 1)))) none) none) none) (Fw d f f data i m):=Φ
def PD (d:Nat)(f g:Nat)(data:(List aa.den))(m:Int)(i:Int)(j:Int):iB d f (g+1) data m i j=cond (i<j) (cond (0≤m&&m<(data.length:Int)) (cond (0≤w64 (aV .u64 (IntKind.wrap .u64 (w64 (i+j))) 1)&&w64 (aV .u64 (IntKind.wrap .u64 (w64 (i+j))) 1)<(data.length:Int)) (cond (!kK (ix aa data m) (ix aa data (w64 (aV .u64 (IntKind.wrap .u64 (w64 (i+j))) 1)))<0) (iB d f g data m (w64 (w64 (aV .u64 (IntKind.wrap .u64 (w64 (i+j))) 1)+1)) j) (iB d f g data m i (w64 (aV .u64 (IntKind.wrap .u64 (w64 (i+j))) 1)))) none) none) (Fw d f f data i m):=by simpa only[aD,bf,v_,t_,ξ,S',w_,x_,m_,u_,Int.reduceLE,Int.reduceEq,Int.reduceLT,I']using Mq d f g data m i j
def Dj (d:Nat)(f:Nat)(data:(List aa.den))(a:Int)(m:Int)(b:Int)(start:Int)(r:Int):(tC d) f data a m b start r=((jQ d) f f data a m b start r):=Φ
def TM (d:Nat)(g j:Nat)(data:(List aa.den))(i:Int)(f:Int):Mo d g (j+1) data i f=cond (f<w64 (i-1)) none (some (.tup (aF []))):=Φ
def PC (d:Nat)(g j:Nat)(data:(List aa.den))(i:Int)(f:Int):Fw d g (j+1) data i f=cond (f>i) none (some (.tup (aF []))):=Φ
def Mp (d:Nat)(f g:Nat)(data:(List aa.den))(a:Int)(m:Int)(b:Int)(start:Int)(r:Int):jQ d f (g+1) data a m b start r=cond (start<r) (cond (0≤(1:Int)) (cond (0≤w64 (w64 (w64 (w64 (aV .u64 (IntKind.wrap .u64 (w64 (a+b))) 1)+m)-1)-w64 (aV .u64 (IntKind.wrap .u64 (w64 (start+r))) 1))&&w64 (w64 (w64 (w64 (aV .u64 (IntKind.wrap .u64 (w64 (a+b))) 1)+m)-1)-w64 (aV .u64 (IntKind.wrap .u64 (w64 (start+r))) 1))<(data.length:Int)) (cond (0≤w64 (aV .u64 (IntKind.wrap .u64 (w64 (start+r))) 1)&&w64 (aV .u64 (IntKind.wrap .u64 (w64 (start+r))) 1)<(data.length:Int)) (cond (!kK (ix aa data (w64 (w64 (w64 (w64 (aV .u64 (IntKind.wrap .u64 (w64 (a+b))) 1)+m)-1)-w64 (aV .u64 (IntKind.wrap .u64 (w64 (start+r))) 1)))) (ix aa data (w64 (aV .u64 (IntKind.wrap .u64 (w64 (start+r))) 1)))<0) (jQ d f g data a m b (w64 (w64 (aV .u64 (IntKind.wrap .u64 (w64 (start+r))) 1)+1)) r) (jQ d f g data a m b start (w64 (aV .u64 (IntKind.wrap .u64 (w64 (start+r))) 1)))) none) none) none) (cond (az (decide (start<m)) (decide (start<m))&&(az (decide (start<m)) (decide (start<m))&&true)&&true) (cond (az (decide (start<m)) (decide (start<m))&&true) (cond (cond (start<m) (m<w64 (w64 (w64 (aV .u64 (IntKind.wrap .u64 (w64 (a+b))) 1)+m)-start)) false) none (tB d f data a b start m)) none) none):=Φ
def PB (d:Nat)(f g:Nat)(data:(List aa.den))(a:Int)(m:Int)(b:Int)(start:Int)(r:Int):jQ d f (g+1) data a m b start r=cond (start<r) (cond (0≤w64 (w64 (w64 (w64 (aV .u64 (IntKind.wrap .u64 (w64 (a+b))) 1)+m)-1)-w64 (aV .u64 (IntKind.wrap .u64 (w64 (start+r))) 1))&&w64 (w64 (w64 (w64 (aV .u64 (IntKind.wrap .u64 (w64 (a+b))) 1)+m)-1)-w64 (aV .u64 (IntKind.wrap .u64 (w64 (start+r))) 1))<(data.length:Int)) (cond (0≤w64 (aV .u64 (IntKind.wrap .u64 (w64 (start+r))) 1)&&w64 (aV .u64 (IntKind.wrap .u64 (w64 (start+r))) 1)<(data.length:Int)) (cond (!kK (ix aa data (w64 (w64 (w64 (w64 (aV .u64 (IntKind.wrap .u64 (w64 (a+b))) 1)+m)-1)-w64 (aV .u64 (IntKind.wrap .u64 (w64 (start+r))) 1)))) (ix aa data (w64 (aV .u64 (IntKind.wrap .u64 (w64 (start+r))) 1)))<0) (jQ d f g data a m b (w64 (w64 (aV .u64 (IntKind.wrap .u64 (w64 (start+r))) 1)+1)) r) (jQ d f g data a m b start (w64 (aV .u64 (IntKind.wrap .u64 (w64 (start+r))) 1)))) none) none) (cond (cond (start<m) (m<w64 (w64 (w64 (aV .u64 (IntKind.wrap .u64 (w64 (a+b))) 1)+m)-start)) false) none (tB d f data a b start m)):=by simpa only[aD,bf,v_,t_,ξ,S',w_,x_,m_,u_,Int.reduceLE,Int.reduceEq,Int.reduceLT,I']using Mp d f g data a m b start r
def Ms (d:Nat)(f:Nat)(data:(List aa.den))(a:Int)(b:Int)(start:Int)(m:Int):tB d f data a b start m=cond (az (decide (a<start)) (decide (a<start))&&(az (decide (a<start)) (decide (a<start))&&true)&&true) (cond (az (decide (a<start)) (decide (a<start))&&true) (cond (cond (a<start) (start<w64 (aV .u64 (IntKind.wrap .u64 (w64 (a+b))) 1)) false) (cond (ye d data a start (w64 (aV .u64 (IntKind.wrap .u64 (w64 (a+b))) 1))) (mj d f data b a m start) none) (mj d f data b a m start)) none) none:=Φ
def Di (d:Nat)(f:Nat)(data:(List aa.den))(a:Int)(b:Int)(start:Int)(m:Int):tB d f data a b start m=cond (cond (a<start) (start<w64 (aV .u64 (IntKind.wrap .u64 (w64 (a+b))) 1)) false) (cond (ye d data a start (w64 (aV .u64 (IntKind.wrap .u64 (w64 (a+b))) 1))) (mj d f data b a m start) none) (mj d f data b a m start):=by simpa only[aD,bf,v_,t_,ξ,S',w_,x_,m_,u_,Int.reduceLE,Int.reduceEq,Int.reduceLT,I']using Ms d f data a b start m
def Mr (d:Nat)(f:Nat)(data:(List aa.den))(b:Int)(a:Int)(m:Int)(start:Int):mj d f data b a m start=cond (az (decide (w64 (aV .u64 (IntKind.wrap .u64 (w64 (a+b))) 1)<w64 (w64 (w64 (aV .u64 (IntKind.wrap .u64 (w64 (a+b))) 1)+m)-start))) (decide (w64 (aV .u64 (IntKind.wrap .u64 (w64 (a+b))) 1)<w64 (w64 (w64 (aV .u64 (IntKind.wrap .u64 (w64 (a+b))) 1)+m)-start)))&&(az (decide (w64 (aV .u64 (IntKind.wrap .u64 (w64 (a+b))) 1)<w64 (w64 (w64 (aV .u64 (IntKind.wrap .u64 (w64 (a+b))) 1)+m)-start))) (decide (w64 (aV .u64 (IntKind.wrap .u64 (w64 (a+b))) 1)<w64 (w64 (w64 (aV .u64 (IntKind.wrap .u64 (w64 (a+b))) 1)+m)-start)))&&true)&&true) (cond (az (decide (w64 (aV .u64 (IntKind.wrap .u64 (w64 (a+b))) 1)<w64 (w64 (w64 (aV .u64 (IntKind.wrap .u64 (w64 (a+b))) 1)+m)-start))) (decide (w64 (aV .u64 (IntKind.wrap .u64 (w64 (a+b))) 1)<w64 (w64 (w64 (aV .u64 (IntKind.wrap .u64 (w64 (a+b))) 1)+m)-start)))&&true) (cond (cond (w64 (aV .u64 (IntKind.wrap .u64 (w64 (a+b))) 1)<w64 (w64 (w64 (aV .u64 (IntKind.wrap .u64 (w64 (a+b))) 1)+m)-start)) (w64 (w64 (w64 (aV .u64 (IntKind.wrap .u64 (w64 (a+b))) 1)+m)-start)<b) false) (cond (ye d data (w64 (aV .u64 (IntKind.wrap .u64 (w64 (a+b))) 1)) (w64 (w64 (w64 (aV .u64 (IntKind.wrap .u64 (w64 (a+b))) 1)+m)-start)) b) (some (.tup (aF []))) none) (some (.tup (aF [])))) none) none:=Φ
def Dh (d:Nat)(f:Nat)(data:(List aa.den))(b:Int)(a:Int)(m:Int)(start:Int):mj d f data b a m start=cond (cond (w64 (aV .u64 (IntKind.wrap .u64 (w64 (a+b))) 1)<w64 (w64 (w64 (aV .u64 (IntKind.wrap .u64 (w64 (a+b))) 1)+m)-start)) (w64 (w64 (w64 (aV .u64 (IntKind.wrap .u64 (w64 (a+b))) 1)+m)-start)<b) false) (cond (ye d data (w64 (aV .u64 (IntKind.wrap .u64 (w64 (a+b))) 1)) (w64 (w64 (w64 (aV .u64 (IntKind.wrap .u64 (w64 (a+b))) 1)+m)-start)) b) (some (.tup (aF []))) none) (some (.tup (aF []))):=by simpa only[aD,bf,v_,t_,ξ,S',w_,x_,m_,u_,Int.reduceLE,Int.reduceEq,Int.reduceLT,I']using Mr d f data b a m start
def ab7 (d:Nat)(f:Nat)(data:(List aa.den))(a:Int)(m:Int)(b:Int):zm d f data a m b=cond (w64 (m-a)=1) (kW d f f data a m b) (cond (w64 (b-m)=1) (iB d f f data m a m) (cond (0≤(1:Int)) (cond (m>w64 (aV .u64 (IntKind.wrap .u64 (w64 (a+b))) 1)) (tC d f data a m b (w64 (w64 (w64 (aV .u64 (IntKind.wrap .u64 (w64 (a+b))) 1)+m)-b)) (w64 (aV .u64 (IntKind.wrap .u64 (w64 (a+b))) 1))) (tC d f data a m b a m)) none)):=Φ
def agM (d:Nat)(f:Nat)(data:(List aa.den))(a:Int)(m:Int)(b:Int):zm d f data a m b=cond (w64 (m-a)=1) (kW d f f data a m b) (cond (w64 (b-m)=1) (iB d f f data m a m) (cond (m>w64 (aV .u64 (IntKind.wrap .u64 (w64 (a+b))) 1)) (tC d f data a m b (w64 (w64 (w64 (aV .u64 (IntKind.wrap .u64 (w64 (a+b))) 1)+m)-b)) (w64 (aV .u64 (IntKind.wrap .u64 (w64 (a+b))) 1))) (tC d f data a m b a m))):=by simpa only[aD,bf,v_,t_,ξ,S',w_,x_,m_,u_,Int.reduceLE,Int.reduceEq,Int.reduceLT,I']using ab7 d f data a m b
def agL (d:Nat):aK prog (TO d)→FiOk prog 186 ((acf d)):=λh=>⟨⟨f186,func186,rfl,Φ,Φ,Φ⟩,gC,ah h⟩
def ab8 (d:Nat)(J:aK prog (TO d))(h:∀(p:(List aa.den)) (l:Int) (j:Int) (g:Int),ye (d+1) p l j g=true→∃f,(zm d) f p l j g=some (.tup (aF []))):am prog 186 (Mt (d+1)):=WK λp l j g r=>(let ⟨_,C⟩:=h p l j g r;eM follows (λ_ _ h=>by cases h) bI (agL d J) C)
def vN:MS:=⟨0,[],[(0,.dat (.slice aa)),(1,.dat tInt),(2,.keep),(6,.dat tInt),(7,.dat tInt),(8,.dat tInt)]⟩
def jb:MS:=⟨0,[],[(0,.dat (.slice aa)),(1,.dat tInt),(2,.keep),(6,.dat tInt)]⟩
def Mz:List (Nat×Ent):=[(140,Vq),(186,(Mt 2097152))]
def kX:Par:=⟨yc.tab,aA Mz,λ_=>look [(16,jb)],λ_=>look [(2,vN),(7,jb),(9,vN)]⟩
def rE:Code:=(f138.body).getD .skip
def WI:Fi:=⟨kX,63,[],rE⟩
def act:Code:=sub rE [1,1,0,0,0]
def acs:Code:=sub rE [1,1,1]
def FI:Code:=sub rE [1,1,1,1,0,0]
def acr:Code:=sub rE [1,1,1,1,0,0,1,0,1,0,0,0]
def acq:Code:=sub rE [1,1,1,1,0,0,1,0,1,1]
def acp:Code:=sub rE [1,1,1,1,0,0,1,0,1,1,1]
def zu (f:Nat)(n:Nat)(data:(List aa.den))(j:Int)(a:Int)(b:Int):Option AV:=aI 0 vN (λg k=>exec (aL fi0 hs0 f 0) kX 0 f act g k) (aj 0 (aP 0 none (λg k=>exec (aL fi0 hs0 f 0) kX 0 f acs g k) fE)) n ⟨mkE 63 [(0,.val (.slice aa) data),(1,.val tInt j),(2,.fn 102 (aF [])),(6,.val tInt (20:Int)),(7,.val tInt a),(8,.val tInt b)],mkH 0 []⟩
def tF (g:Nat)(n:Nat)(data:(List aa.den))(l:Int)(f:Int):Option AV:=aI 0 jb (λj k=>exec (aL fi0 hs0 g 0) kX 0 g FI j k) (aj 2 fE) n ⟨mkE 63 [(0,.val (.slice aa) data),(1,.val tInt l),(2,.fn 102 (aF [])),(6,.val tInt f)],mkH 0 []⟩
def zt (f p:Nat)(n:Nat)(data:(List aa.den))(l:Int)(g:Int)(a:Int)(b:Int):Option AV:=aI 0 vN (λj k=>exec (aL fi0 hs0 f 0) kX 0 f acr j k) (aj 4 (aP 0 none (λj k=>exec (aL fi0 hs0 f 0) kX 0 f acq j k) (aj 3 (uG 0 jb (aI 0 jb (λj k=>exec (aL fi0 hs0 f 0) kX 0 f FI j k) (aj 2 fE) p) (aj 2 fE))))) n ⟨mkE 63 [(0,.val (.slice aa) data),(1,.val tInt l),(2,.fn 102 (aF [])),(6,.val tInt g),(7,.val tInt a),(8,.val tInt b)],mkH 0 []⟩
def B5 (g p:Nat)(data:(List aa.den))(l:Int)(f:Int):Option AV:=exec (aL fi0 hs0 g 0) kX 0 g acp ⟨mkE 63 [(0,.val (.slice aa) data),(1,.val tInt l),(2,.fn 102 (aF [])),(6,.val tInt f)],mkH 0 []⟩ (aj 3 (uG 0 jb (aI 0 jb (λj k=>exec (aL fi0 hs0 g 0) kX 0 g FI j k) (aj 2 fE) p) (aj 2 fE)))
def B4 (f:Nat)(data:(List aa.den))(g:Int):Option AV:=eF fi0 hs0 0 WI [] f [.val (.slice aa) data,.val tInt g,.fn 102 .pnil]
def PL (f j:Nat)(data:(List aa.den))(g:Int)(a:Int)(b:Int):zu f (j+1) data g a b=cond (b≤g) (cond (RE data a b) (zu f j data g b (w64 (b+20))) none) (cond (RE data a g) (tF f f data g 20) none):=Φ
def PK (g l:Nat)(data:(List aa.den))(j:Int)(f:Int):tF g (l+1) data j f=cond (f<j) (zt g l g data j f 0 (w64 ((2:Int)*f))) (some (.tup (aF []))):=Φ
def PJ (g l p:Nat)(data:(List aa.den))(j:Int)(f:Int)(a:Int)(b:Int):zt g l (p+1) data j f a b=cond (b≤j) (cond (ye 2097152 data a (w64 (a+f)) b) (zt g l p data j f b (w64 (b+w64 ((2:Int)*f)))) none) (cond (w64 (a+f)<j) (cond (ye 2097152 data a (w64 (a+f)) j) (B5 g l data j f) none) (B5 g l data j f)):=Φ
def Mx (g l:Nat)(data:(List aa.den))(j:Int)(f:Int):B5 g l data j f=(tF g l data j (w64 (f*2))):=Φ
def aco (f:Nat)(data:(List aa.den))(g:Int):B4 f data g=(zu f f data g 0 20):=Φ
def acn:aK prog Mz→FiOk prog 138 (WI):=λh=>⟨⟨f138,func138,rfl,Φ,Φ,Φ⟩,gC,ah h⟩
def My:Ent:=agZ 102 (.slice aa) tInt (λg f=>FH g f) λg f=>.tup (aF [])
def Zc (r:aK prog Mz)(h:∀(j:(List aa.den)) (g:Int),FH j g=true→∃f,B4 f j g=some (.tup (aF []))):am prog 138 My:=WL λj g l=>(let ⟨_,p⟩:=h j g l;eM follows (λ_ _ h=>by cases h) bI (acn r) p)
def TT:List (Nat×Ent):=[(138,My)]
def alR:Par:=⟨yc.tab,aA TT,λ_=>look [],λ_=>look []⟩
def alQ:Code:=(f101.body).getD .skip
def acw:Fi:=⟨alR,9,[],alQ⟩
def FK (f:Nat)(x:(List aa.den)):Option AV:=eF fi0 hs0 0 acw [] f [.val (.slice aa) x,.fn 102 .pnil]
def agX (f:Nat)(x:(List aa.den)):FK f x=cond (FH x (x.length:Int)) (some (.tup (aF []))) none:=Φ
def agW:aK prog TT→FiOk prog 101 (acw):=λh=>⟨⟨f101,func101,rfl,Φ,Φ,Φ⟩,gC,ah h⟩
def TS:Ent:=alW 102 (.slice aa) (λf=>CU f) λf=>.tup (aF [])
def acv (p:aK prog TT)(h:∀(g:(List aa.den)),CU g=true→∃f,FK f g=some (.tup (aF []))):am prog 101 TS:=ag0 λg j=>(let ⟨_,l⟩:=h g j;eM follows (λ_ _ h=>by cases h) bI (agW p) l)
def SY:Ent:=sp1 (.slice aa) (λf=>aoy f) λf=>.val (.slice aa) (idC f)
def LI:Ent:=sp1 (.slice aM) (λf=>yF f) λf=>.val (.slice aM) (idA f)
def xY:List (Nat×Ent):=[]
def Tw:Par:=⟨yc.tab,aA xY,λ_=>look [],λ_=>look []⟩
def Tv:Code:=(f58.body).getD .skip
def E9:Fi:=⟨Tw,15,[.cell 4 90],Tv⟩
def rk (g:Nat)(w:aa.den)(f:Int):Option AV:=eF fi0 hs0 0 E9 [ae] g [.val aa w,.val tInt f]
def OT (g:Nat)(w:aa.den)(f:Int):rk g w f=some (.val ae (w.1,w.2.1,[(f,w.2.2.1,())],())):=Φ
def OS:aK prog xY→FiOk prog 58 (E9):=λh=>⟨⟨f58,func58,rfl,Φ,Φ,Φ⟩,gC,ah h⟩
def xX:Ent:=sp2 aa tInt (λ_ _=>true) λg f=>.val ae (lW g f)
def L9 (p:aK prog xY)(h:∀(g:aa.den) (f:Int),∃j,rk j g f=some (.val ae (lW g f))):am prog 58 xX:=yg λg f _=>(let ⟨_,l⟩:=h g f;aC follows (λ_ _ h=>by cases h) bI (OS p) (ds:=[⟨_,g⟩,⟨_,f⟩]) l)
open Go Tryz
def jC {j:Int}(p:0≤i)(l:0≤j)(g:i+j≤4194304):w64 (aV .u64 (IntKind.wrap .u64 (w64 (i+j))) 1)=(i+j)/2:=by
 have e:IntKind.wrap .u64 (i+j)=i+j:=by simp[IntKind.wrap,IntKind.bits,IntKind.signed];omega
 have f:aV .u64 (i+j) 1=(i+j)/2:=by simp only[aV];rw[show min (Int.toNat 1) (IntKind.bits .u64)=1 from by decide,ats _ Ϛ];rfl
 rw[bE (n:=i+j) Ω Ω,e,f,bE Ω Ω]
def kE:CU l=true↔l.length≤1048576∧l.Pairwise ig:=by simp[CU]
def ant (a b c d:Int):eU (qP a c) (qP b d)<0↔ahd a b c d=true:=by
 rw[da];unfold eU qP
 repeat' split
 all_goals omega
def afd (a b c d:Int):eU (qP a c) (qP b d)=0↔a=c∧b=d:=by
 unfold eU qP
 repeat' split
 all_goals omega
def alz (a b:ao.den):f8 a b<0↔ahd a.1 a.2.1 b.1 b.2.1=true:=ant ..
def ako (a b:ao.den):f8 a b=0↔a.1=b.1∧a.2.1=b.2.1:=afd ..
def Oq (a b:ao.den):∃f,yP f a b=some (.val tInt (f8 a b)) :=
 ⟨0,by
  rw[abe,aiR,u5,u5];rfl⟩
def XO {t:Ty}{l:List t.den}(h:i.toNat<l.length):ix t l i=l[i.toNat]:=by show l.getD i.toNat (zero t)=_;rw[e_,ζ h];rfl
def agc (h:l.Pairwise ig){j:Int}(C:0≤i)(r:i<j)(p:j<l.length):ahd (ix aa l i).1 (ix aa l i).2.1 (ix aa l j).1 (ix aa l j).2.1=true:=by
 have g:i.toNat<l.length:=Ω
 have f:j.toNat<l.length:=Ω
 rw[XO g,XO f];exact L_.1 h _ _ g f Ω
def XE (h:l.Pairwise ig){j:Int}(p:0≤i)(g:i<j)(f:j<l.length):decide (kK (ix aa l j) (ix aa l i)<0)=false:=by apply df;have:=agc h p g f;rw[kK,alz];rw[da]at *;dsimp only;omega
def Xe (t:ao.den):∀(l:List Cel) (h:pre l t<l.length),ahd l[pre l t].1 l[pre l t].2.1 t.1 t.2.1=false
 |c::r,h=>by
  cases f:ahd c.1 c.2.1 t.1 t.2.1 with
  |true=>
   have e:pre (c::r) t=pre r t+1:=by simp[pre,O_,f]
   have g:pre r t<r.length:=by rw[e]at h;simpa using h
   simp[e];exact Xe t r g
  |false=>
   have e:pre (c::r) t=0:=by simp[pre,O_,f]
   simp[e,f]
def Xd (t:ao.den):∀(l:List Cel) (i:Nat) (h:i<pre l t) (g:i<l.length),ahd l[i].1 l[i].2.1 t.1 t.2.1=true
 |c::r,i,h,g=>by
  cases f:ahd c.1 c.2.1 t.1 t.2.1 with
  |true=>
   have e:pre (c::r) t=pre r t+1:=by simp[pre,O_,f]
   cases i with
   |zero=>simpa using f
   |succ i =>simp;exact Xd t r i Ω (by simpa using g)
  |false=>
   have e:pre (c::r) t=0:=by simp[pre,O_,f]
   omega
def ame (t:ao.den)(l:List Cel):pre l t≤l.length:=(asA _).length_le
def adg (J:l.Pairwise ig)(t:ao.den)(R:0≤i)(P:i<l.length):decide (pP (ix aa l i) t<0)=decide (i<pre l t):=by
 have j:i.toNat<l.length:=Ω
 rw[XO j];apply decide_eq_decide.2;rw[pP,alz];dsimp only;constructor
 ·intro h;by_cases g:i<pre l t
  ·exact g
  ·exfalso;have p:pre l t<l.length:=Ω
   have f:=Xe t l p;by_cases r:pre l t=i.toNat
   ·simp[r]at f;rw[f]at h;cases h
   ·have C:ahd l[pre l t].1 l[pre l t].2.1 l[i.toNat].1 l[i.toNat].2.1=true:=L_.1 J _ _ p j Ω;rw[ga C h]at f;cases f
 ·intro h;exact Xd t l _ Ω j
def II (f:Nat)(l:List Cel)(t:ao.den)(J:l.length≤1048576)(r:l.Pairwise ig):∀(n:Nat) (i j:Int),0≤i→i≤pre l t→pre l t≤j→j≤l.length→(j-i).toNat<n →
  u9 f n l t i j=some (.tup (aF [.val tInt (nG l t).1,.val .bool (nG l t).2.1]))
 |0,i,j,_,_,_,_,h=>Ω
 |n+1,i,j,h0,h1,h2,h3,h=>by
  rw[abq];by_cases P:i<j
  ·rw[dt P,ξ,jC h0 Ω Ω];have T:(decide (0≤(i+j)/2)&&decide ((i+j)/2<(l.length:Int)))=true:=by rw[dt Ω,dt Ω];rfl
   rw[T,ξ,adg r t Ω Ω];by_cases C:(i+j)/2<pre l t
   ·rw[dt C,ξ,bE Ω Ω];exact II f l t J r n _ j Ω Ω h2 h3 Ω
   ·rw[df C,S'];exact II f l t J r n i _ h0 h1 Ω Ω Ω
  ·rw[df P,S'];have p:i=pre l t:=Ω
   by_cases g:i<(l.length:Int)
   ·have e:l.drop (pre l t)=ix aa l i::l.drop (pre l t+1):=by
     rw[XO Ω,asj Ω];simp[p]
    have R:decide (pP (ix aa l i) t=0)=atF t (l.drop (pre l t)):=by rw[e,atF,←Bool.decide_and];exact decide_eq_decide.2 (by rw[pP,ako])
    rw[dt g,dt h0,R];simp[EJ,nG,p]
   ·have e:l.drop (pre l t)=[]:=arS Ω;rw[df g];simp[EJ,nG,p,e,atF]
def abp (l:List Cel)(t:ao.den)(h:JB l t=true):∃f,OC f l t=some (.tup (aF [.val tInt (nG l t).1,.val .bool (nG l t).2.1])):=by obtain⟨g,j⟩:=kE.1 h;refine⟨l.length+1, ?_⟩;rw[anT];exact II _ l t g j _ 0 l.length Ω Ω (by have:=ame t l;omega) Ω Ω
def R9 (l:List Cel)(t:ao.den)(h:JB l t=true):∃f,CD f l t=some (.tup (aF [.val tInt (nG l t).1,.val .bool (nG l t).2.1])) :=
 ⟨0,by rw[aeA,h];rfl⟩
def pc:Option AV:=some (.tup (aF []))
def K8 (f:Nat)(l:List Cel)(a b:Int)(r:l.length≤1048576)(p:l.Pairwise ig)(J:0≤a)(C:b≤l.length):∀(n:Nat) (i:Int),a<i→(b-i).toNat<n→AS (f+1) n l a b i=pc
 |0,_,_,h=>Ω
 |n+1,i,h,h'=>by
  rw[Vp];by_cases g:i<b
  ·have T:decide (i>a)=true:=dt h;have R:(decide (0≤i)&&decide (i<(l.length:Int)))=true:=by rw[dt Ω,dt Ω];rfl
   have P:(decide (0≤i-1)&&decide (i-1<(l.length:Int)))=true:=by rw[dt Ω,dt Ω];rfl
   rw[dt g,ξ,Vo,bE (n:=i-1) Ω Ω,bE (n:=i+1) Ω Ω,XE p (i:=i-1) (j:=i) Ω Ω Ω,K8 f l a b r p J C n (i+1) Ω Ω];simp only[T,R,P,EJ,u_,Bool.false_or,ξ,S']
  ·rw[df g];rfl
def Vn (l:List Cel)(a b:Int)(h:RE l a b=true):∃f,HC f l a b=pc:=by simp[RE]at h;obtain⟨h,⟨p,r⟩,h2⟩:=h;obtain⟨g,j⟩:=kE.1 h;refine⟨l.length+1, ?_⟩;rw[ajQ,bE Ω Ω];exact K8 _ l a b g j p h2 _ (a+1) Ω Ω
def WD (d f:Nat)(l:List Cel)(a m b:Int)(r:l.length≤1048576)(p:l.Pairwise ig)(P:0≤a)(J:m=a+1)(C:b≤l.length):∀(n:Nat) (j:Int),m≤j→j≤b→(j-m).toNat<n→kW d (f+1) n l a m j=pc
 |0,_,_,_,h=>Ω
 |n+1,j,h2,h3,h=>by
  rw[TN];by_cases g:m<j
  ·have T:(decide (0≤(m+j)/2)&&decide ((m+j)/2<(l.length:Int)))=true:=by rw[dt Ω,dt Ω];rfl
   have R:(decide (0≤a)&&decide (a<(l.length:Int)))=true:=by rw[dt Ω,dt Ω];rfl
   rw[dt g,jC Ω Ω Ω,T,R,XE p (i:=a) (j:=(m+j)/2) Ω Ω Ω];simp;exact WD d f l a m b r p P J C n _ Ω Ω Ω
  ·rw[df g,S',TM,bE Ω Ω,df Ω];rfl
def WE (d f:Nat)(l:List Cel)(a m:Int)(C:l.length≤1048576)(p:l.Pairwise ig)(J:0≤a)(r:m<l.length):∀(n:Nat) (i:Int),a≤i→i≤m→(m-i).toNat<n→iB d (f+1) n l m i m=pc
 |0,_,_,_,h=>Ω
 |n+1,i,h2,h3,h=>by
  rw[PD];by_cases g:i<m
  ·have R:(decide (0≤(i+m)/2)&&decide ((i+m)/2<(l.length:Int)))=true:=by rw[dt Ω,dt Ω];rfl
   have P:(decide (0≤m)&&decide (m<(l.length:Int)))=true:=by rw[dt Ω,dt Ω];rfl
   rw[dt g,jC Ω Ω Ω,R,P,XE p (i:=(i+m)/2) (j:=m) Ω Ω Ω,bE Ω Ω];simp;exact WE d f l a m C p J r n _ Ω Ω Ω
  ·rw[df g,S',PC,df Ω];rfl
def BY (d f:Nat)(l:List Cel)(a m b J r g:Int)(hl:l.length≤1048576)(ha:l.Pairwise ig)(h0:0≤a)(U:a<m)(R:m<b)(hb:b≤l.length)(C:(a+b)/2=g)(T:0≤J)(P:r=m∨r=g∧g<m)
  (hp:∀c,J≤c→c<r→c<g+m-1-c∧g+m-1-c<b) (hk:tB d (f+1) l a b r m=pc):∀(n:Nat) (s:Int),J≤s→s≤r→(r-s).toNat<n→jQ d (f+1) n l a m b s r=pc
 |0,_,_,_,h=>Ω
 |n+1,s,h2,h3,h=>by
  rw[PB,jC (i:=a) (j:=b) Ω Ω Ω,C];rw[bE (n:=g+m) Ω Ω];by_cases hc:s<r
  ·obtain⟨p1,p2⟩:=hp ((s+r)/2) Ω Ω;rw[dt hc,jC (i:=s) (j:=r) Ω Ω Ω,bE (n:=g+m-1) Ω Ω,bE (n:=g+m-1-(s+r)/2) Ω Ω];have e1:(decide (0≤g+m-1-(s+r)/2)&&decide (g+m-1-(s+r)/2<(l.length:Int)))=true:=by rw[dt Ω,dt Ω];rfl
   have e2:(decide (0≤(s+r)/2)&&decide ((s+r)/2<(l.length:Int)))=true:=by rw[dt Ω,dt Ω];rfl
   rw[e1,e2,XE ha (i:=(s+r)/2) Ω p1 Ω,bE (n:=(s+r)/2+1) Ω Ω];simp;exact BY d f l a m b J r g hl ha h0 U R hb C T P hp hk n _ Ω Ω Ω
  ·have hs:s=r:=Ω
   rw[df hc,S',hs,bE (n:=g+m-r) Ω Ω,hk];obtain rfl|⟨rfl,P⟩:=P
   ·rw[df (p:=r<r) Ω];rfl
   ·rw[dt P,df Ω];rfl
def TL (d:Nat)(l:List Cel)(a m b:Int)(h:ye (d+1) l a m b=true):∃J,zm d J l a m b=pc:=by
 simp[ye]at h;obtain⟨h,⟨⟨⟨r,h1⟩,h2⟩,h3⟩,h4⟩:=h;have j:=h;obtain⟨U,ha⟩:=kE.1 h;refine⟨l.length+1, ?_⟩;rw[agM,bE (n:=m-a) Ω Ω,bE (n:=b-m) Ω Ω,jC Ω Ω Ω];by_cases k1:m-a=1
 ·rw[dt k1,ξ];exact WD d _ l a m b U ha r Ω h3 _ b Ω Ω Ω
 by_cases k2:b-m=1
 ·rw[df k1,dt k2,S',ξ];exact WE d _ l a m U ha r Ω _ a Ω Ω Ω
 rw[df k1,df k2,S',S'];generalize f:(a+b)/2=mid;have C:∀R T P:Int,a≤R→R<T→T<P→P≤b→P-R<b-a→ye d l R T P=true:=λR T P g1 g2 g3 g4 g5=>by simp[ye,j];omega
 by_cases k3:m>mid
 ·rw[dt k3,ξ,bE (n:=mid+m) Ω Ω,bE (n:=mid+m-b) Ω Ω,Dj];refine BY d _ l a m b (mid+m-b) mid mid U ha r h1 h2 h3 f Ω (.inr ⟨rfl,k3⟩) (λc g1 g2=>⟨Ω,Ω⟩) ?_ _ _ Ω Ω Ω;rw[Di,jC Ω Ω Ω,f,df (p:=mid<mid) Ω];rw[show(bif decide (a<mid)then false else false)=false by cases decide (a<mid) <;> rfl,S'];rw[Dh,jC Ω Ω Ω,f,bE (n:=mid+m) Ω Ω,bE (n:=mid+m-mid) Ω Ω,show mid+m-mid=m by omega,dt (p:=mid<m) Ω,dt (p:=m<b) h2,C mid m b Ω Ω h2 Ω Ω];rfl
 ·rw[df k3,S',Dj];refine BY d _ l a m b a m mid U ha r h1 h2 h3 f r (.inl rfl) (λc g1 g2=>⟨Ω,Ω⟩) ?_ _ _ Ω Ω Ω;have g:mj d (l.length+1) l b a m m=pc:=by
   rw[Dh,jC Ω Ω Ω,f,bE (n:=mid+m) Ω Ω,bE (n:=mid+m-m) Ω Ω,show mid+m-m=mid by omega,df (p:=mid<mid) Ω];rfl
  rw[Di,jC Ω Ω Ω,f,g,dt h1,ξ];by_cases k4:m<mid
  ·rw[dt k4,ξ,C a m mid Ω h1 k4 Ω Ω];rfl
  ·rw[df k4];rfl
def Dn (F C:Nat)(l:List Cel)(f:Int)(J:CU l=true)(T:1≤f)(R:f≤1048576)(P:tF F C l l.length (f*2)=pc):∀(n:Nat) (a:Int),0≤a→a≤l.length→(l.length-a).toNat<n→zt F C n l l.length f a (a+2*f)=pc
 |0,_,_,_,h=>Ω
 |n+1,a,h0,h3,h=>by
  obtain⟨U,ha⟩:=kE.1 J;have g:∀j r:Int,a<j→j<r→r≤l.length→ye 2097152 l a j r=true:=λj r g2 g3 g4=>by simp[ye,J];omega
  rw[PJ,Mx,bE (n:=a+f) Ω Ω,bE (n:=f*2) Ω Ω,P];by_cases p:a+2*f≤(l.length:Int)
  ·rw[dt p,ξ,g (a+f) (a+2*f) Ω Ω p,ξ,bE (n:=2*f) Ω Ω,bE Ω Ω];exact Dn F C l f J T R P n (a+2*f) Ω p Ω
  ·rw[df p,S'];by_cases k:a+f<(l.length:Int)
   ·rw[dt k,ξ,g (a+f) l.length Ω k Ω,ξ]
   ·rw[df k,S']
def Dm (f:Nat)(l:List Cel)(j:CU l=true)(r:l.length≤f):∀(n:Nat) (g:Int),1≤g→g≤2097152→(l.length-g).toNat<n→tF (f+1) n l l.length g=pc
 |0,_,_,_,h=>Ω
 |n+1,g,h1,h2,h=>by
  obtain⟨C,J⟩:=kE.1 j;rw[PK];by_cases p:g<(l.length:Int)
  ·rw[dt p,ξ,bE (n:=2*g) Ω Ω];have:=Dn (f+1) n l g j h1 Ω (Dm f l j r n (g*2) Ω Ω Ω) (f+1) 0 Ω Ω Ω;rwa[Int.zero_add]at this
  ·rw[df p];rfl
def zw (f:Nat)(l:List Cel)(j:CU l=true)(C:l.length≤f):∀(n:Nat) (a:Int),0≤a→a≤l.length→(l.length-a).toNat<n→zu (f+1) n l l.length a (a+20)=pc
 |0,_,_,_,h=>Ω
 |n+1,a,h0,h1,h=>by
  obtain⟨J,P⟩:=kE.1 j;have g:∀r:Int,a≤r→r≤l.length→RE l a r=true:=λr T R=>by simp[RE,j];omega
  rw[PL];by_cases p:a+20≤(l.length:Int)
  ·rw[dt p,ξ,g _ Ω p,ξ,bE Ω Ω];exact zw f l j C n (a+20) Ω p Ω
  ·rw[df p,S',g _ h1 Ω,ξ];exact Dm f l j C (f+1) 20 Ω Ω Ω
def PI (l:List Cel)(n:Int)(h:FH l n=true):∃f,B4 f l n=pc:=by simp[FH]at h;obtain⟨h,rfl⟩:=h;refine⟨l.length+1, ?_⟩;rw[aco];have:=zw l.length l h (δ _) (l.length+1) 0 Ω Ω Ω;rwa[Int.zero_add]at this
def TR (l:List Cel)(h:CU l=true):∃f,FK f l=pc :=
 ⟨0,by rw[agX,show FH l (l.length:Int)=true by simp[FH,h]];rfl⟩
def E8 (w:Cel)(s:Int):∃f,rk f w s=some (.val ae (lW w s)):=⟨0,OT 0 w s⟩
