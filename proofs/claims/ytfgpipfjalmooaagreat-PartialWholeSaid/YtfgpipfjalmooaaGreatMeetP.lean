/- Parts of a clone. -/
import Derived.Test.YtfgpipfjalmooaaGreatGenH
open Option renaming some→ä,none→ö
open Bool renaming true→ü
set_option linter.all false
noncomputable section
namespace Go.Proofs.YtfgpipfjalmooaaGreat
namespace Abs
abbrev am:Ty:=(.cons tCommit (.cons tInt .unit))
open Go Tryz
def ahc (g:FuncId)(a:Ty)(G:a.den→Bool)(R:a.den→AV):Ent:=λargs=>match args with
 |[y0,.fn g' .pnil]=>match Nat.beq g g' with
  |true=>match bb? a y0 with|some f=>ä (G f,R f)|_=>ö
  |false=>ö
 |_=>ö
variable{P:Program}{f g:FuncId}
def adP {a:Ty}{G:a.den→Bool}{R:a.den→AV}
  (h:∀l,G l=ü→bA P f∧∀w St,(∀b o,St b o→b<w.heap.size)→∀p,RAs (aG w St) [.val a l,.fn g .pnil] p→Calls P f p.toArray w (Hj w St (R l))):aj P f (ahc g a G R):=λargs cz j=>by
 unfold ahc at j;split at j
 next y0 g'=>
  split at j
  next C=>
   have C:=ν C;subst C;split at j
   ·rename_i l r;simp at j;obtain⟨h1,rfl⟩:=j;obtain⟨U,T⟩:=h l h1;refine⟨λw St p=>RAs (aG w St) [.val a l,.fn g .pnil] p,λc p hr=>?_,U,T⟩;match p,hr with
    |[J,v1],⟨r0,r1,_⟩=>exact⟨⟨J,rfl,(bb?_sound (c:=c) r r0:RepV c.w c.St a l J)⟩,Dw r1,apa⟩
   ·cases j
  ·cases j
 ·cases j
def aha (g:FuncId)(a b c:Ty)(G:a.den→b.den→c.den→Bool)(R:a.den→b.den→c.den→AV):Ent:=λargs=>match args with
 |[y0,y1,y2,.fn g' .pnil]=>match Nat.beq g g' with
  |true=>match bb? a y0,bb? b y1,bb? c y2 with|some l,ä j,ä f=>ä (G l j f,R l j f)|_,_,_=>ö
  |false=>ö
 |_=>ö
def adN {a b c:Ty}{G:a.den→b.den→c.den→Bool}{R:a.den→b.den→c.den→AV}
  (h:∀C r p,G C r p=ü→bA P f∧∀w St,(∀b o,St b o→b<w.heap.size)→∀J,RAs (aG w St) [.val a C,.val b r,.val c p,.fn g .pnil] J→Calls P f J.toArray w (Hj w St (R C r p))):aj P f (aha g a b c G R):=λargs cz j=>by
 unfold aha at j;split at j
 next y0 y1 y2 g'=>
  split at j
  next hg=>
   have hg:=ν hg;subst hg;split at j
   ·rename_i C r p hx0 U T;simp at j;obtain⟨h1,rfl⟩:=j;obtain⟨k1,k2⟩:=h C r p h1;refine⟨λw St J=>RAs (aG w St) [.val a C,.val b r,.val c p,.fn g .pnil] J,λl J hr=>?_,k1,k2⟩;match J,hr with
    |[v0,v1,v2,v3],⟨r0,r1,r2,r3,_⟩=>exact⟨⟨v0,rfl,(bb?_sound (c:=l) hx0 r0:RepV l.w l.St a C v0)⟩,⟨v1,rfl,(bb?_sound (c:=l) U r1:RepV l.w l.St b r v1)⟩,⟨v2,rfl,(bb?_sound (c:=l) T r2:RepV l.w l.St c p v2)⟩,Dw r3,apa⟩
   ·cases j
  ·cases j
 ·cases j
def ag9 (g:FuncId)(a b c d:Ty)(G:a.den→b.den→c.den→d.den→Bool)(R:a.den→b.den→c.den→d.den→AV):Ent:=λargs=>match args with
 |[y0,y1,y2,y3,.fn g' .pnil]=>match Nat.beq g g' with
  |true=>match bb? a y0,bb? b y1,bb? c y2,bb? d y3 with|some p,ä l,ä j,ä f=>ä (G p l j f,R p l j f)|_,_,_,_=>ö
  |false=>ö
 |_=>ö
def adM {a b c d:Ty}{G:a.den→b.den→c.den→d.den→Bool}{R:a.den→b.den→c.den→d.den→AV}
  (h:∀J C r p,G J C r p=ü→bA P f∧∀w St,(∀b o,St b o→b<w.heap.size)→∀T,RAs (aG w St) [.val a J,.val b C,.val c r,.val d p,.fn g .pnil] T→Calls P f T.toArray w (Hj w St (R J C r p))):aj P f (ag9 g a b c d G R):=λargs cz l=>by
 unfold ag9 at l;split at l
 next y0 y1 y2 y3 g'=>
  split at l
  next hg=>
   have hg:=ν hg;subst hg;split at l
   ·rename_i J C r p hx0 hx1 hx2 U;simp at l;obtain⟨h1,rfl⟩:=l;obtain⟨k1,k2⟩:=h J C r p h1;refine⟨λw St T=>RAs (aG w St) [.val a J,.val b C,.val c r,.val d p,.fn g .pnil] T,λj T hr=>?_,k1,k2⟩;match T,hr with
    |[v0,v1,v2,v3,v4],⟨r0,r1,r2,r3,r4,_⟩=>exact⟨⟨v0,rfl,(bb?_sound (c:=j) hx0 r0:RepV j.w j.St a J v0)⟩,⟨v1,rfl,(bb?_sound (c:=j) hx1 r1:RepV j.w j.St b C v1)⟩,⟨v2,rfl,(bb?_sound (c:=j) hx2 r2:RepV j.w j.St c r v2)⟩,⟨v3,rfl,(bb?_sound (c:=j) U r3:RepV j.w j.St d p v3)⟩,Dw r4,apa⟩
   ·cases l
  ·cases l
 ·cases l
abbrev Prt:=am.den
def xY (a b:Prt):Int:=afd a.1.1 b.1.1
def aao (a b:Prt):Prop:=a.1.1<b.1.1
instance ptDec (a b:Prt):Decidable (aao a b):=inferInstanceAs (Decidable (_<_))
def Mq (l:List Prt):Bool:=l.length≤19&&l.Pairwise aao
def Cs (l:List Prt)(a b:Int):Bool:=Mq l&&(decide (0≤a)&&decide (a≤b)&&decide (b≤(l.length:Int)))
def aju (_:List Prt)(_ _ _:Int):Bool:=false
def xr (l:List Prt)(n:Int):Bool:=Mq l&&decide (n=(l.length:Int))
def Wm:TabL:={
 ty:=[(3,tInt),(4,.bool),(9,.str),(23,(.slice tInt)),(29,(.slice am)),(36,(.slice aa)),(38,tCommit),(42,aM),(44,aa),(54,am),(108,(.int .u64))],
 cells:=[(3,1),(4,1),(9,1),(23,1),(29,1),(36,1),(38,5),(42,4),(44,6),(54,6),(79,1),(108,1)],
 si:=[((38,0),0),((38,1),1),((38,2),2),((38,3),3),((38,4),4),((42,0),0),((42,1),1),((42,2),2),((42,3),3),((44,0),0),((44,1),1),((44,2),2),((54,0),0),((54,1),5)],
 one:=[],
 elem:=[(23,3),(29,54),(36,44)] }
def CY:TabOk prog Wm.tab:=TabL.ok Φ
def Me:List (Nat×Ent):=[(41,Mf)]
def afM:Par:=⟨Wm.tab,az Me,λ_=>look [],λ_=>look []⟩
def afL:Code:=(f40.body).getD .skip
def Vt:Fi:=⟨afM,12,[.tmp 4],afL⟩
def By (f:Nat)(a:am.den)(b:am.den):Option AV:=mT fi0 hs0 0 Vt [tInt] f [.val am a,.val am b]
def acw (f:Nat)(a:am.den)(b:am.den):By f a b=ä (.val tInt (Qr (a.1.1) (b.1.1))):=Φ
def acv:bD prog Me→FiOk prog 40 (Vt):=λh=>⟨⟨f40,func40,rfl,Φ,Φ,Φ⟩,CY,ag h⟩
def Md:Ent:=sp2 am am (λ_ _=>ü) λg f=>.val tInt (xY g f)
def Yv (p:bD prog Me)(h:∀(g:am.den) (f:am.den),∃j,By j g f=ä (.val tInt (xY g f))):aj prog 40 Md:=Kw λg f _=>(let ⟨_,l⟩:=h g f;bi follows (λ_ _ h=>by cases h) d7 (acv p) (ds:=[⟨_,g⟩,⟨_,f⟩]) l)
def zI:MS:=⟨0,[],[(0,.bb (.slice am)),(1,.bb tInt),(2,.bb tInt),(3,.keep),(8,.bb tInt)]⟩
def Pk:MS:=⟨0,[],[(0,.bb (.slice am)),(1,.bb tInt),(2,.bb tInt),(3,.keep),(8,.bb tInt),(9,.bb tInt)]⟩
def SY:List (Nat×Ent):=[(40,Md)]
def Gf:Par:=⟨Wm.tab,az SY,λ_=>look [],λ_=>look [(1,zI),(4,Pk)]⟩
def LI:Code:=(f121.body).getD .skip
def abh:Fi:=⟨Gf,53,[],LI⟩
def U1:Code:=sub LI [1,0,0]
def afa:Code:=sub LI [1,0,0,1,0,0,1,0,0]
def ae9:Code:=sub LI [1,0,0,1,1]
def xP:KT:=bq Wm.tab [] []
def zJ (f:Nat)(n:Nat)(data:(List am.den))(a:Int)(b:Int)(i:Int):Option AV:=aN 0 zI (λg k=>exec (bo fi0 hs0 f 0) Gf 0 f U1 g k) (ak 0 xP) n ⟨mkE 53 [(0,.val (.slice am) data),(1,.val tInt a),(2,.val tInt b),(3,.fn 40 (aY [])),(8,.val tInt i)],mkH 0 []⟩
def LH (f l:Nat)(n:Nat)(data:(List am.den))(a:Int)(b:Int)(i:Int)(j:Int):Option AV:=aN 0 Pk (λg k=>exec (bo fi0 hs0 f 0) Gf 0 f afa g k) (ak 2 (ak 1 (aW 0 ö (λg k=>exec (bo fi0 hs0 f 0) Gf 0 f ae9 g k) (I4 0 zI (aN 0 zI (λg k=>exec (bo fi0 hs0 f 0) Gf 0 f U1 g k) (ak 0 xP) l) (ak 0 xP))))) n ⟨mkE 53 [(0,.val (.slice am) data),(1,.val tInt a),(2,.val tInt b),(3,.fn 40 (aY [])),(8,.val tInt i),(9,.val tInt j)],mkH 0 []⟩
def Ge (f:Nat)(data:(List am.den))(a:Int)(b:Int):Option AV:=mT fi0 hs0 0 abh [] f [.val (.slice am) data,.val tInt a,.val tInt b,.fn 40 .pnil]
def SW (f g:Nat)(data:(List am.den))(a:Int)(b:Int)(i:Int):zJ f (g+1) data a b i=cond (i<b) (LH f g f data a b i i) (ä (.tup (aY []))):=Φ
def Pl (f g l:Nat)(data:(List am.den))(a:Int)(b:Int)(i:Int)(j:Int):LH f g (l+1) data a b i j=cond (aL (decide (j>a)) (decide (j>a))&&(aL (decide (j>a)) (decide (j>a))&&ü)&&aL (decide (j>a)) (0≤j&&j<(data.length:Int))) (cond (aL (decide (j>a)) (decide (j>a))&&ü&&ü) (cond (aL (decide (j>a)) (decide (j>a))&&ü&&ü) (cond (aL (decide (j>a)) (decide (j>a))&&(aL (decide (j>a)) (decide (j>a))&&ü)&&aL (decide (j>a)) (0≤w64 (j-1)&&w64 (j-1)<(data.length:Int))) (cond (aL (decide (j>a)) (decide (j>a))&&ü&&ü) (cond (aL (decide (j>a)) (decide (j>a))&&(aL (decide (j>a)) (decide (j>a))&&(aL (decide (j>a)) (decide (j>a))&&ü))&&ü) (cond (aL (decide (j>a)) (decide (j>a))&&ü&&ü) (cond (aL (decide (j>a)) (decide (j>a))&&ü) (cond (cond (j>a) (xY (ix am data j) (ix am data (w64 (j-1)))<0) false) ö (zJ f g data a b (w64 (i+1)))) ö) ö) ö) ö) ö) ö) ö) none:=Φ
def SV (f g l:Nat)(data:(List am.den))(a:Int)(b:Int)(i:Int)(j:Int):LH f g (l+1) data a b i j=cond (aL (decide (j>a)) (0≤j&&j<(data.length:Int))) (cond (aL (decide (j>a)) (0≤w64 (j-1)&&w64 (j-1)<(data.length:Int))) (cond (cond (j>a) (xY (ix am data j) (ix am data (w64 (j-1)))<0) false) ö (zJ f g data a b (w64 (i+1)))) ö) none:=by simpa only[aI,cd,v?,h?,U',I_,B?,t?,m?,u?,Int.reduceLE,Int.reduceEq,Int.reduceLT,Z']using Pl f g l data a b i j
def ae8 (f:Nat)(data:(List am.den))(a:Int)(b:Int):Ge f data a b=(zJ f f data a b (w64 (a+1))):=Φ
def ae7:bD prog SY→FiOk prog 121 (abh):=λh=>⟨⟨f121,func121,rfl,Φ,Φ,Φ⟩,CY,ag h⟩
def SX:Ent:=aha 40 (.slice am) tInt tInt (λj g f=>Cs j g f) λj g f=>.tup (aY [])
def abg (C:bD prog SY)(h:∀(l:(List am.den)) (j:Int) (g:Int),Cs l j g=ü→∃f,Ge f l j g=ä (.tup (aY []))):aj prog 121 SX:=adN λl j g p=>(let ⟨_,r⟩:=h l j g p;iX follows (λ_ _ h=>by cases h) d7 (ae7 C) r)
def Zx:Ent:=ag9 40 (.slice am) tInt tInt tInt (λl j g f=>aju l j g f) λl j g f=>.tup (aY [])
def uV:MS:=⟨0,[],[(0,.bb (.slice am)),(1,.bb tInt),(2,.keep),(6,.bb tInt),(7,.bb tInt),(8,.bb tInt)]⟩
def pl:MS:=⟨0,[],[(0,.bb (.slice am)),(1,.bb tInt),(2,.keep),(6,.bb tInt)]⟩
def Kv:List (Nat×Ent):=[(121,SX),(122,Zx)]
def qR:Par:=⟨Wm.tab,az Kv,λ_=>look [(16,pl)],λ_=>look [(2,uV),(7,pl),(9,uV)]⟩
def uW:Code:=(f69.body).getD .skip
def T3:Fi:=⟨qR,63,[],uW⟩
def ZK:Code:=sub uW [1,1,0,0,0]
def ZJ:Code:=sub uW [1,1,1]
def NB:Code:=sub uW [1,1,1,1,0,0]
def ZI:Code:=sub uW [1,1,1,1,0,0,1,0,1,0,0,0]
def ZH:Code:=sub uW [1,1,1,1,0,0,1,0,1,1]
def Er (f:Nat)(n:Nat)(data:(List am.den))(j:Int)(a:Int)(b:Int):Option AV:=aN 0 uV (λg k=>exec (bo fi0 hs0 f 0) qR 0 f ZK g k) (ak 0 (aW 0 ö (λg k=>exec (bo fi0 hs0 f 0) qR 0 f ZJ g k) xP)) n ⟨mkE 63 [(0,.val (.slice am) data),(1,.val tInt j),(2,.fn 40 (aY [])),(6,.val tInt (20:Int)),(7,.val tInt a),(8,.val tInt b)],mkH 0 []⟩
def Nz (g:Nat)(n:Nat)(data:(List am.den))(l:Int)(f:Int):Option AV:=aN 0 pl (λj k=>exec (bo fi0 hs0 g 0) qR 0 g NB j k) (ak 2 xP) n ⟨mkE 63 [(0,.val (.slice am) data),(1,.val tInt l),(2,.fn 40 (aY [])),(6,.val tInt f)],mkH 0 []⟩
def ZF (f p:Nat)(n:Nat)(data:(List am.den))(l:Int)(g:Int)(a:Int)(b:Int):Option AV:=aN 0 uV (λj k=>exec (bo fi0 hs0 f 0) qR 0 f ZI j k) (ak 4 (aW 0 ö (λj k=>exec (bo fi0 hs0 f 0) qR 0 f ZH j k) (ak 3 (I4 0 pl (aN 0 pl (λj k=>exec (bo fi0 hs0 f 0) qR 0 f NB j k) (ak 2 xP) p) (ak 2 xP))))) n ⟨mkE 63 [(0,.val (.slice am) data),(1,.val tInt l),(2,.fn 40 (aY [])),(6,.val tInt g),(7,.val tInt a),(8,.val tInt b)],mkH 0 []⟩
def AJ (f:Nat)(data:(List am.den))(g:Int):Option AV:=mT fi0 hs0 0 T3 [] f [.val (.slice am) data,.val tInt g,.fn 40 .pnil]
def NA (f j:Nat)(data:(List am.den))(g:Int)(a:Int)(b:Int):Er f (j+1) data g a b=cond (b≤g) (cond (Cs data a b) (Er f j data g b (w64 (b+20))) ö) (cond (Cs data a g) (Nz f f data g 20) ö):=Φ
def Ny (g l:Nat)(data:(List am.den))(j:Int)(f:Int):Nz g (l+1) data j f=cond (f<j) (ZF g l g data j f 0 (w64 ((2:Int)*f))) (ä (.tup (aY []))):=Φ
def ZG (f:Nat)(data:(List am.den))(g:Int):AJ f data g=(Er f f data g 0 20):=Φ
def ZE:bD prog Kv→FiOk prog 69 (T3):=λh=>⟨⟨f69,func69,rfl,Φ,Φ,Φ⟩,CY,ag h⟩
def Ku:Ent:=ahb 40 (.slice am) tInt (λg f=>xr g f) λg f=>.tup (aY [])
def Ws (r:bD prog Kv)(h:∀(j:(List am.den)) (g:Int),xr j g=ü→∃f,AJ f j g=ä (.tup (aY []))):aj prog 69 Ku:=adO λj g l=>(let ⟨_,p⟩:=h j g l;iX follows (λ_ _ h=>by cases h) d7 (ZE r) p)
def Rc:List (Nat×Ent):=[(69,Ku)]
def ag7:Par:=⟨Wm.tab,az Rc,λ_=>look [],λ_=>look []⟩
def ag6:Code:=(f39.body).getD .skip
def ZN:Fi:=⟨ag7,9,[],ag6⟩
def Es (f:Nat)(x:(List am.den)):Option AV:=mT fi0 hs0 0 ZN [] f [.val (.slice am) x,.fn 40 .pnil]
def adL (f:Nat)(x:(List am.den)):Es f x=cond (xr x (x.length:Int)) (ä (.tup (aY []))) none:=Φ
def adK:bD prog Rc→FiOk prog 39 (ZN):=λh=>⟨⟨f39,func39,rfl,Φ,Φ,Φ⟩,CY,ag h⟩
def ZM:Ent:=ahc 40 (.slice am) (λf=>Mq f) λf=>.tup (aY [])
def ZL (p:bD prog Rc)(h:∀(g:(List am.den)),Mq g=ü→∃f,Es f g=ä (.tup (aY []))):aj prog 39 ZM:=adP λg j=>(let ⟨_,l⟩:=h g j;iX follows (λ_ _ h=>by cases h) d7 (adK p) l)
variable{l:List Prt}
def Hb:Mq l=ü↔l.length≤19∧l.Pairwise aao:=by simp[Mq]
def Qp (x y:Prt):∃f,By f x y=ä (.val tInt (xY x y)):=⟨0,by rw[acw,acA];rfl⟩
def abc {i:Int}(g:0≤i)(f:i<l.length):ix am l i=l[i.toNat]'Ω:=by unfold ix;rw[O',ζ Ω];rfl
def ai1 (f:l.Pairwise aao){i j:Int}(p:0≤i)(r:i<j)(g:j<l.length):decide (xY (ix am l j) (ix am l i)<0)=false:=by have:=W_.1 f i.toNat j.toNat Ω Ω Ω;rw[abc Ω g,abc p Ω];refine df λh=>?_;have t:((l[i.toNat]'Ω).1.1:Int)<(l[j.toNat]'Ω).1.1:=this;unfold xY afd at h;rw[ω (Int.not_lt.2 (alU t)),Θ t]at h;exact absurd h Ϛ
def Vj:Option AV:=ä (.tup (aY []))
def Jb (f:Nat)(l:List Prt)(a b:Int)(r:l.length≤19)(p:l.Pairwise aao)(J:0≤a)(C:b≤l.length):∀(n:Nat) (i:Int),a<i→(b-i).toNat<n→zJ (f+1) n l a b i=Vj
 |0,_,_,h=>Ω
 |n+1,i,h,h'=>by
  rw[SW];by_cases g:i<b
  ·have T:decide (i>a)=true:=dt h;have R:(decide (0≤i)&&decide (i<(l.length:Int)))=true:=by rw[dt Ω,dt Ω];rfl
   have P:(decide (0≤i-1)&&decide (i-1<(l.length:Int)))=true:=by rw[dt Ω,dt Ω];rfl
   rw[dt g,U',SV,qI (n:=i-1) Ω Ω,qI (n:=i+1) Ω Ω,ai1 p (i:=i-1) (j:=i) Ω Ω Ω,Jb f l a b r p J C n (i+1) Ω Ω];simp only[T,R,P,afb,u?,Bool.false_or,U',I_]
  ·rw[df g];rfl
def SU (l:List Prt)(a b:Int)(h:Cs l a b=ü):∃f,Ge f l a b=Vj:=by simp[Cs]at h;obtain⟨h,⟨p,r⟩,h2⟩:=h;obtain⟨g,j⟩:=Hb.1 h;refine⟨l.length+1, ?_⟩;rw[ae8,qI Ω Ω];exact Jb _ l a b g j p h2 _ (a+1) Ω Ω
def Nv (l:List Prt)(n:Int)(h:xr l n=ü):∃f,AJ f l n=Vj:=by simp[xr]at h;obtain⟨h,rfl⟩:=h;obtain⟨g,j⟩:=Hb.1 h;refine⟨1, ?_⟩;rw[ZG,NA,df Ω,I_,show Cs l 0 (l.length:Int)=ü by simp[Cs,h],U',Ny,df Ω];rfl
def Rb (l:List Prt)(h:Mq l=ü):∃f,Es f l=Vj :=
 ⟨0,by rw[adL,show xr l (l.length:Int)=ü by simp[xr,h]];rfl⟩
def afK:aj prog 40 Md:=Yv ⟨ain,apa⟩ Qp
def ah0:aj prog 121 SX:=abg ⟨afK,apa⟩ SU
def ag4:aj prog 122 Zx:=adM λl a m b h=>by cases h
def adJ:aj prog 69 Ku:=Ws ⟨ah0,ag4,apa⟩ Nv
def ag5:aj prog 39 ZM:=ZL ⟨adJ,apa⟩ Rb
