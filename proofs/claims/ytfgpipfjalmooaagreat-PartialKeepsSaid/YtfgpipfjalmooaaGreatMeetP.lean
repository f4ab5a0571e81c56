/- Parts of a clone. -/
import Derived.Test.YtfgpipfjalmooaaGreatGenH
set_option linter.all false
noncomputable section
namespace Go.Proofs.YtfgpipfjalmooaaGreat
namespace Abs
abbrev aq:Ty:=(.cons tCommit (.cons tInt .unit))
open Go Tryz
def aht (g:FuncId)(a:Ty)(G:a.den→Bool)(R:a.den→AV):Ent:=λargs=>match args with
 |[y0,.fn g' .pnil]=>match Nat.beq g g' with
  |true=>match dat? a y0 with|some f=>some (G f,R f)|_=>none
  |false=>none
 |_=>none
variable{P:Program}{f g:FuncId}
def aeb {a:Ty}{G:a.den→Bool}{R:a.den→AV}
  (h:∀l,G l=true→bx P f∧∀w St,(∀b o,St b o→b<w.heap.size)→∀p,RAs (aG w St) [.val a l,.fn g .pnil] p→Calls P f p.toArray w (H4 w St (R l))):ak P f (aht g a G R):=λargs res j=>by
 unfold aht at j;split at j
 next y0 g'=>
  split at j
  next C=>
   have C:=κ C;subst C;split at j
   ·rename_i l r;simp at j;obtain⟨h1,rfl⟩:=j;obtain⟨U,T⟩:=h l h1;refine⟨λw St p=>RAs (aG w St) [.val a l,.fn g .pnil] p,λc p hr=>?_,U,T⟩;match p,hr with
    |[J,v1],⟨r0,r1,_⟩=>exact⟨⟨J,rfl,(dat?_sound (c:=c) r r0:RepV c.w c.St a l J)⟩,Ei r1,apj⟩
   ·cases j
  ·cases j
 ·cases j
def ahr (g:FuncId)(a b c:Ty)(G:a.den→b.den→c.den→Bool)(R:a.den→b.den→c.den→AV):Ent:=λargs=>match args with
 |[y0,y1,y2,.fn g' .pnil]=>match Nat.beq g g' with
  |true=>match dat? a y0,dat? b y1,dat? c y2 with|some l,some j,some f=>some (G l j f,R l j f)|_,_,_=>none
  |false=>none
 |_=>none
def ad9 {a b c:Ty}{G:a.den→b.den→c.den→Bool}{R:a.den→b.den→c.den→AV}
  (h:∀C r p,G C r p=true→bx P f∧∀w St,(∀b o,St b o→b<w.heap.size)→∀J,RAs (aG w St) [.val a C,.val b r,.val c p,.fn g .pnil] J→Calls P f J.toArray w (H4 w St (R C r p))):ak P f (ahr g a b c G R):=λargs res j=>by
 unfold ahr at j;split at j
 next y0 y1 y2 g'=>
  split at j
  next hg=>
   have hg:=κ hg;subst hg;split at j
   ·rename_i C r p hx0 U T;simp at j;obtain⟨h1,rfl⟩:=j;obtain⟨k1,k2⟩:=h C r p h1;refine⟨λw St J=>RAs (aG w St) [.val a C,.val b r,.val c p,.fn g .pnil] J,λl J hr=>?_,k1,k2⟩;match J,hr with
    |[v0,v1,v2,v3],⟨r0,r1,r2,r3,_⟩=>exact⟨⟨v0,rfl,(dat?_sound (c:=l) hx0 r0:RepV l.w l.St a C v0)⟩,⟨v1,rfl,(dat?_sound (c:=l) U r1:RepV l.w l.St b r v1)⟩,⟨v2,rfl,(dat?_sound (c:=l) T r2:RepV l.w l.St c p v2)⟩,Ei r3,apj⟩
   ·cases j
  ·cases j
 ·cases j
def ahq (g:FuncId)(a b c d:Ty)(G:a.den→b.den→c.den→d.den→Bool)(R:a.den→b.den→c.den→d.den→AV):Ent:=λargs=>match args with
 |[y0,y1,y2,y3,.fn g' .pnil]=>match Nat.beq g g' with
  |true=>match dat? a y0,dat? b y1,dat? c y2,dat? d y3 with|some p,some l,some j,some f=>some (G p l j f,R p l j f)|_,_,_,_=>none
  |false=>none
 |_=>none
def ad8 {a b c d:Ty}{G:a.den→b.den→c.den→d.den→Bool}{R:a.den→b.den→c.den→d.den→AV}
  (h:∀J C r p,G J C r p=true→bx P f∧∀w St,(∀b o,St b o→b<w.heap.size)→∀T,RAs (aG w St) [.val a J,.val b C,.val c r,.val d p,.fn g .pnil] T→Calls P f T.toArray w (H4 w St (R J C r p))):ak P f (ahq g a b c d G R):=λargs res l=>by
 unfold ahq at l;split at l
 next y0 y1 y2 y3 g'=>
  split at l
  next hg=>
   have hg:=κ hg;subst hg;split at l
   ·rename_i J C r p hx0 hx1 hx2 U;simp at l;obtain⟨h1,rfl⟩:=l;obtain⟨k1,k2⟩:=h J C r p h1;refine⟨λw St T=>RAs (aG w St) [.val a J,.val b C,.val c r,.val d p,.fn g .pnil] T,λj T hr=>?_,k1,k2⟩;match T,hr with
    |[v0,v1,v2,v3,v4],⟨r0,r1,r2,r3,r4,_⟩=>exact⟨⟨v0,rfl,(dat?_sound (c:=j) hx0 r0:RepV j.w j.St a J v0)⟩,⟨v1,rfl,(dat?_sound (c:=j) hx1 r1:RepV j.w j.St b C v1)⟩,⟨v2,rfl,(dat?_sound (c:=j) hx2 r2:RepV j.w j.St c r v2)⟩,⟨v3,rfl,(dat?_sound (c:=j) U r3:RepV j.w j.St d p v3)⟩,Ei r4,apj⟩
   ·cases l
  ·cases l
 ·cases l
abbrev Prt:=aq.den
def yJ (a b:Prt):Int:=afE a.1.1 b.1.1
def aaM (a b:Prt):Prop:=a.1.1<b.1.1
instance ptDec (a b:Prt):Decidable (aaM a b):=inferInstanceAs (Decidable (_<_))
def MZ (l:List Prt):Bool:=l.length≤19&&l.Pairwise aaM
def Df (l:List Prt)(a b:Int):Bool:=MZ l&&(decide (0≤a)&&decide (a≤b)&&decide (b≤(l.length:Int)))
def ajN (_:List Prt)(_ _ _:Int):Bool:=false
def x9 (l:List Prt)(n:Int):Bool:=MZ l&&decide (n=(l.length:Int))
def Xb:TabL:={
 ty:=[(3,tInt),(4,.bool),(9,.str),(23,(.slice tInt)),(29,(.slice aq)),(36,(.slice aa)),(38,tCommit),(42,aN),(44,aa),(54,aq),(108,(.int .u64))],
 cells:=[(3,1),(4,1),(9,1),(23,1),(29,1),(36,1),(38,5),(42,4),(44,6),(54,6),(79,1),(108,1)],
 offs:=[((38,0),0),((38,1),1),((38,2),2),((38,3),3),((38,4),4),((42,0),0),((42,1),1),((42,2),2),((42,3),3),((44,0),0),((44,1),1),((44,2),2),((54,0),0),((54,1),5)],
 one:=[],
 elem:=[(23,3),(29,54),(36,44)] }
def DK:TabOk prog Xb.tab:=TabL.ok Φ
def MO:List (Nat×Ent):=[(41,MP)]
def af9:Par:=⟨Xb.tab,az MO,λ_=>look [],λ_=>look []⟩
def af8:Code:=(f40.body).getD .skip
def V9:Fi:=⟨af9,12,[.tmp 4],af8⟩
def Cx (f:Nat)(a:aq.den)(b:aq.den):Option AV:=mn fi0 hs0 0 V9 [tInt] f [.val aq a,.val aq b]
def acU (f:Nat)(a:aq.den)(b:aq.den):Cx f a b=some (.val tInt (Q3 (a.1.1) (b.1.1))):=Φ
def acT:bA prog MO→FiOk prog 40 (V9):=λh=>⟨⟨f40,func40,rfl,Φ,Φ,Φ⟩,DK,af h⟩
def MN:Ent:=sp2 aq aq (λ_ _=>true) λg f=>.val tInt (yJ g f)
def Y5 (p:bA prog MO)(h:∀(g:aq.den) (f:aq.den),∃j,Cx j g f=some (.val tInt (yJ g f))):ak prog 40 MN:=K6 λg f _=>(let ⟨_,l⟩:=h g f;bj follows (λ_ _ h=>by cases h) eA (acT p) (ds:=[⟨_,g⟩,⟨_,f⟩]) l)
def AI:MS:=⟨0,[],[(0,.dat (.slice aq)),(1,.dat tInt),(2,.dat tInt),(3,.keep),(8,.dat tInt)]⟩
def P9:MS:=⟨0,[],[(0,.dat (.slice aq)),(1,.dat tInt),(2,.dat tInt),(3,.keep),(8,.dat tInt),(9,.dat tInt)]⟩
def TO:List (Nat×Ent):=[(40,MN)]
def GY:Par:=⟨Xb.tab,az TO,λ_=>look [],λ_=>look [(1,AI),(4,P9)]⟩
def Mj:Code:=(f121.body).getD .skip
def abH:Fi:=⟨GY,53,[],Mj⟩
def VH:Code:=sub Mj [1,0,0]
def afB:Code:=sub Mj [1,0,0,1,0,0,1,0,0]
def afA:Code:=sub Mj [1,0,0,1,1]
def yB:KT:=bq Xb.tab [] []
def AJ (f:Nat)(n:Nat)(data:(List aq.den))(a:Int)(b:Int)(i:Int):Option AV:=aE 0 AI (λg k=>exec (bp fi0 hs0 f 0) GY 0 f VH g k) (ai 0 yB) n ⟨mkE 53 [(0,.val (.slice aq) data),(1,.val tInt a),(2,.val tInt b),(3,.fn 40 (bo [])),(8,.val tInt i)],mkH 0 []⟩
def Mi (f n1:Nat)(n:Nat)(data:(List aq.den))(a:Int)(b:Int)(i:Int)(j:Int):Option AV:=aE 0 P9 (λg k=>exec (bp fi0 hs0 f 0) GY 0 f afB g k) (ai 2 (ai 1 (aQ 0 none (λg k=>exec (bp fi0 hs0 f 0) GY 0 f afA g k) (JJ 0 AI (aE 0 AI (λg k=>exec (bp fi0 hs0 f 0) GY 0 f VH g k) (ai 0 yB) n1) (ai 0 yB))))) n ⟨mkE 53 [(0,.val (.slice aq) data),(1,.val tInt a),(2,.val tInt b),(3,.fn 40 (bo [])),(8,.val tInt i),(9,.val tInt j)],mkH 0 []⟩
def GX (f:Nat)(data:(List aq.den))(a:Int)(b:Int):Option AV:=mn fi0 hs0 0 abH [] f [.val (.slice aq) data,.val tInt a,.val tInt b,.fn 40 .pnil]
def TM (f n1:Nat)(data:(List aq.den))(a:Int)(b:Int)(i:Int):AJ f (n1+1) data a b i=cond (i<b) (Mi f n1 f data a b i i) (some (.tup (bo []))):=Φ
def Qa (f n1 g:Nat)(data:(List aq.den))(a:Int)(b:Int)(i:Int)(j:Int):Mi f n1 (g+1) data a b i j=cond (aL (decide (j>a)) (decide (j>a))&&(aL (decide (j>a)) (decide (j>a))&&true)&&aL (decide (j>a)) (0≤j&&j<(data.length:Int))) (cond (aL (decide (j>a)) (decide (j>a))&&true&&true) (cond (aL (decide (j>a)) (decide (j>a))&&true&&true) (cond (aL (decide (j>a)) (decide (j>a))&&(aL (decide (j>a)) (decide (j>a))&&true)&&aL (decide (j>a)) (0≤w64 (j-1)&&w64 (j-1)<(data.length:Int))) (cond (aL (decide (j>a)) (decide (j>a))&&true&&true) (cond (aL (decide (j>a)) (decide (j>a))&&(aL (decide (j>a)) (decide (j>a))&&(aL (decide (j>a)) (decide (j>a))&&true))&&true) (cond (aL (decide (j>a)) (decide (j>a))&&true&&true) (cond (aL (decide (j>a)) (decide (j>a))&&true) (cond (cond (j>a) (yJ (ix aq data j) (ix aq data (w64 (j-1)))<0) false) none (AJ f n1 data a b (w64 (i+1)))) none) none) none) none) none) none) none) none:=Φ
def TL (f n1 g:Nat)(data:(List aq.den))(a:Int)(b:Int)(i:Int)(j:Int):Mi f n1 (g+1) data a b i j=cond (aL (decide (j>a)) (0≤j&&j<(data.length:Int))) (cond (aL (decide (j>a)) (0≤w64 (j-1)&&w64 (j-1)<(data.length:Int))) (cond (cond (j>a) (yJ (ix aq data j) (ix aq data (w64 (j-1)))<0) false) none (AJ f n1 data a b (w64 (i+1)))) none) none:=by simpa only[aC,b7,t?,r?,O',H_,A?,q?,f?,s?,Int.reduceLE,Int.reduceEq,Int.reduceLT,b_]using Qa f n1 g data a b i j
def afz (f:Nat)(data:(List aq.den))(a:Int)(b:Int):GX f data a b=(AJ f f data a b (w64 (a+1))):=Φ
def afy:bA prog TO→FiOk prog 121 (abH):=λh=>⟨⟨f121,func121,rfl,Φ,Φ,Φ⟩,DK,af h⟩
def TN:Ent:=ahr 40 (.slice aq) tInt tInt (λj g f=>Df j g f) λj g f=>.tup (bo [])
def abG (C:bA prog TO)(h:∀(l:(List aq.den)) (j:Int) (g:Int),Df l j g=true→∃f,GX f l j g=some (.tup (bo []))):ak prog 121 TN:=ad9 λl j g p=>(let ⟨_,r⟩:=h l j g p;jv follows (λ_ _ h=>by cases h) eA (afy C) r)
def Z2:Ent:=ahq 40 (.slice aq) tInt tInt tInt (λl j g f=>ajN l j g f) λl j g f=>.tup (bo [])
def vL:MS:=⟨0,[],[(0,.dat (.slice aq)),(1,.dat tInt),(2,.keep),(6,.dat tInt),(7,.dat tInt),(8,.dat tInt)]⟩
def pW:MS:=⟨0,[],[(0,.dat (.slice aq)),(1,.dat tInt),(2,.keep),(6,.dat tInt)]⟩
def K5:List (Nat×Ent):=[(121,TN),(122,Z2)]
def rD:Par:=⟨Xb.tab,az K5,λ_=>look [(16,pW)],λ_=>look [(2,vL),(7,pW),(9,vL)]⟩
def vM:Code:=(f69.body).getD .skip
def UO:Fi:=⟨rD,63,[],vM⟩
def aae:Code:=sub vM [1,1,0,0,0]
def aad:Code:=sub vM [1,1,1]
def N6:Code:=sub vM [1,1,1,1,0,0]
def aac:Code:=sub vM [1,1,1,1,0,0,1,0,1,0,0,0]
def aab:Code:=sub vM [1,1,1,1,0,0,1,0,1,1]
def E6 (f:Nat)(n:Nat)(data:(List aq.den))(j:Int)(a:Int)(b:Int):Option AV:=aE 0 vL (λg k=>exec (bp fi0 hs0 f 0) rD 0 f aae g k) (ai 0 (aQ 0 none (λg k=>exec (bp fi0 hs0 f 0) rD 0 f aad g k) yB)) n ⟨mkE 63 [(0,.val (.slice aq) data),(1,.val tInt j),(2,.fn 40 (bo [])),(6,.val tInt (20:Int)),(7,.val tInt a),(8,.val tInt b)],mkH 0 []⟩
def N4 (g:Nat)(n:Nat)(data:(List aq.den))(l:Int)(f:Int):Option AV:=aE 0 pW (λj k=>exec (bp fi0 hs0 g 0) rD 0 g N6 j k) (ai 2 yB) n ⟨mkE 63 [(0,.val (.slice aq) data),(1,.val tInt l),(2,.fn 40 (bo [])),(6,.val tInt f)],mkH 0 []⟩
def Z9 (f p:Nat)(n:Nat)(data:(List aq.den))(l:Int)(g:Int)(a:Int)(b:Int):Option AV:=aE 0 vL (λj k=>exec (bp fi0 hs0 f 0) rD 0 f aac j k) (ai 4 (aQ 0 none (λj k=>exec (bp fi0 hs0 f 0) rD 0 f aab j k) (ai 3 (JJ 0 pW (aE 0 pW (λj k=>exec (bp fi0 hs0 f 0) rD 0 f N6 j k) (ai 2 yB) p) (ai 2 yB))))) n ⟨mkE 63 [(0,.val (.slice aq) data),(1,.val tInt l),(2,.fn 40 (bo [])),(6,.val tInt g),(7,.val tInt a),(8,.val tInt b)],mkH 0 []⟩
def BQ (f:Nat)(data:(List aq.den))(g:Int):Option AV:=mn fi0 hs0 0 UO [] f [.val (.slice aq) data,.val tInt g,.fn 40 .pnil]
def N5 (f j:Nat)(data:(List aq.den))(g:Int)(a:Int)(b:Int):E6 f (j+1) data g a b=cond (b≤g) (cond (Df data a b) (E6 f j data g b (w64 (b+20))) none) (cond (Df data a g) (N4 f f data g 20) none):=Φ
def N3 (g l:Nat)(data:(List aq.den))(j:Int)(f:Int):N4 g (l+1) data j f=cond (f<j) (Z9 g l g data j f 0 (w64 ((2:Int)*f))) (some (.tup (bo []))):=Φ
def aaa (f:Nat)(data:(List aq.den))(g:Int):BQ f data g=(E6 f f data g 0 20):=Φ
def Z8:bA prog K5→FiOk prog 69 (UO):=λh=>⟨⟨f69,func69,rfl,Φ,Φ,Φ⟩,DK,af h⟩
def K4:Ent:=ahs 40 (.slice aq) tInt (λg f=>x9 g f) λg f=>.tup (bo [])
def Xg (r:bA prog K5)(h:∀(j:(List aq.den)) (g:Int),x9 j g=true→∃f,BQ f j g=some (.tup (bo []))):ak prog 69 K4:=aea λj g l=>(let ⟨_,p⟩:=h j g l;jv follows (λ_ _ h=>by cases h) eA (Z8 r) p)
def RN:List (Nat×Ent):=[(69,K4)]
def aho:Par:=⟨Xb.tab,az RN,λ_=>look [],λ_=>look []⟩
def ahn:Code:=(f39.body).getD .skip
def aah:Fi:=⟨aho,9,[],ahn⟩
def E7 (f:Nat)(x:(List aq.den)):Option AV:=mn fi0 hs0 0 aah [] f [.val (.slice aq) x,.fn 40 .pnil]
def ad7 (f:Nat)(x:(List aq.den)):E7 f x=cond (x9 x (x.length:Int)) (some (.tup (bo []))) none:=Φ
def ad6:bA prog RN→FiOk prog 39 (aah):=λh=>⟨⟨f39,func39,rfl,Φ,Φ,Φ⟩,DK,af h⟩
def aag:Ent:=aht 40 (.slice aq) (λf=>MZ f) λf=>.tup (bo [])
def aaf (p:bA prog RN)(h:∀(g:(List aq.den)),MZ g=true→∃f,E7 f g=some (.tup (bo []))):ak prog 39 aag:=aeb λg j=>(let ⟨_,l⟩:=h g j;jv follows (λ_ _ h=>by cases h) eA (ad6 p) l)
variable{l:List Prt}
def HR:MZ l=true↔l.length≤19∧l.Pairwise aaM:=by simp[MZ]
def Q1 (x y:Prt):∃f,Cx f x y=some (.val tInt (yJ x y)):=⟨0,by rw[acU,acY];rfl⟩
def abA {i:Int}(g:0≤i)(f:i<l.length):ix aq l i=l[i.toNat]'Ω:=by unfold ix;rw[π,ε Ω];rfl
def ajh (f:l.Pairwise aaM){i j:Int}(p:0≤i)(r:i<j)(g:j<l.length):decide (yJ (ix aq l j) (ix aq l i)<0)=false:=by have:=x_.1 f i.toNat j.toNat Ω Ω Ω;rw[abA Ω g,abA p Ω];refine df λh=>?_;have t:((l[i.toNat]'Ω).1.1:Int)<(l[j.toNat]'Ω).1.1:=this;unfold yJ afE at h;rw[Θ (alS.2 (al7 t)),G' t]at h;exact absurd h Ϛ
def VZ:Option AV:=some (.tup (bo []))
def JQ (f:Nat)(l:List Prt)(a b:Int)(r:l.length≤19)(p:l.Pairwise aaM)(J:0≤a)(C:b≤l.length):∀(n:Nat) (i:Int),a<i→(b-i).toNat<n→AJ (f+1) n l a b i=VZ
 |0,_,_,h=>Ω
 |n+1,i,h,h'=>by
  rw[TM];by_cases g:i<b
  ·have T:decide (i>a)=true:=dt h;have R:(decide (0≤i)&&decide (i<(l.length:Int)))=true:=by rw[dt Ω,dt Ω];rfl
   have P:(decide (0≤i-1)&&decide (i-1<(l.length:Int)))=true:=by rw[dt Ω,dt Ω];rfl
   rw[dt g,O',TL,rm (n:=i-1) Ω Ω,rm (n:=i+1) Ω Ω,ajh p (i:=i-1) (j:=i) Ω Ω Ω,JQ f l a b r p J C n (i+1) Ω Ω];simp only[T,R,P,afC,s?,Bool.false_or,O',H_]
  ·rw[df g];rfl
def TK (l:List Prt)(a b:Int)(h:Df l a b=true):∃f,GX f l a b=VZ:=by simp[Df]at h;obtain⟨h,⟨p,r⟩,h2⟩:=h;obtain⟨g,j⟩:=HR.1 h;refine⟨l.length+1, ?_⟩;rw[afz,rm Ω Ω];exact JQ _ l a b g j p h2 _ (a+1) Ω Ω
def N2 (l:List Prt)(n:Int)(h:x9 l n=true):∃f,BQ f l n=VZ:=by simp[x9]at h;obtain⟨h,rfl⟩:=h;obtain⟨g,j⟩:=HR.1 h;refine⟨1, ?_⟩;rw[aaa,N5,df Ω,H_,show Df l 0 (l.length:Int)=true by simp[Df,h],O',N3,df Ω];rfl
def RM (l:List Prt)(h:MZ l=true):∃f,E7 f l=VZ :=
 ⟨0,by rw[ad7,show x9 l (l.length:Int)=true by simp[x9,h]];rfl⟩
def af7:ak prog 40 MN:=Y5 ⟨aiE,apj⟩ Q1
def aii:ak prog 121 TN:=abG ⟨af7,apj⟩ TK
def ahl:ak prog 122 Z2:=ad8 λl a m b h=>by cases h
def ad5:ak prog 69 K4:=Xg ⟨aii,ahl,apj⟩ N2
def ahm:ak prog 39 aag:=aaf ⟨ad5,apj⟩ RM
