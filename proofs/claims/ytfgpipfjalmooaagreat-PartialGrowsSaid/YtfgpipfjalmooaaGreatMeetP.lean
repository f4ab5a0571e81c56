/- Parts of a clone. -/
import Derived.Test.YtfgpipfjalmooaaGreatGenH
set_option linter.all false
noncomputable section
namespace Go.Proofs.YtfgpipfjalmooaaGreat
namespace Abs
abbrev aw:Ty:=(.cons tCommit (.cons tInt .unit))
open Go Tryz
def afB (g:FuncId)(a:Ty)(G:a.den→Bool)(R:a.den→AV):Ent:=λargs=>match args with
 |[y0,.fn g' .pnil]=>match Nat.beq g g' with
  |true=>match dat? a y0 with|some f=>some (G f,R f)|_=>none
  |false=>none
 |_=>none
variable{P:Program}{f g:FuncId}
def ab7 {a:Ty}{G:a.den→Bool}{R:a.den→AV}
  (h:∀l,G l=true→bp P f∧∀w St,(∀b o,St b o→b<w.heap.size)→∀p,RAs (aI w St) [.val a l,.fn g .pnil] p→Calls P f p.toArray w (GF w St (R l))):aj P f (afB g a G R):=λargs res j=>by
 unfold afB at j;split at j
 next y0 g'=>
  split at j
  next C=>
   have C:=κ C;subst C;split at j
   ·rename_i l r;simp at j;obtain⟨h1,rfl⟩:=j;obtain⟨U,T⟩:=h l h1;refine⟨λw St p=>RAs (aI w St) [.val a l,.fn g .pnil] p,λc p hr=>?_,U,T⟩;match p,hr with
    |[J,v1],⟨r0,r1,_⟩=>exact⟨⟨J,rfl,(dat?_sound (c:=c) r r0:RepV c.w c.St a l J)⟩,CT r1,anO⟩
   ·cases j
  ·cases j
 ·cases j
def afz (g:FuncId)(a b c:Ty)(G:a.den→b.den→c.den→Bool)(R:a.den→b.den→c.den→AV):Ent:=λargs=>match args with
 |[y0,y1,y2,.fn g' .pnil]=>match Nat.beq g g' with
  |true=>match dat? a y0,dat? b y1,dat? c y2 with|some l,some j,some f=>some (G l j f,R l j f)|_,_,_=>none
  |false=>none
 |_=>none
def ab5 {a b c:Ty}{G:a.den→b.den→c.den→Bool}{R:a.den→b.den→c.den→AV}
  (h:∀C r p,G C r p=true→bp P f∧∀w St,(∀b o,St b o→b<w.heap.size)→∀J,RAs (aI w St) [.val a C,.val b r,.val c p,.fn g .pnil] J→Calls P f J.toArray w (GF w St (R C r p))):aj P f (afz g a b c G R):=λargs res j=>by
 unfold afz at j;split at j
 next y0 y1 y2 g'=>
  split at j
  next hg=>
   have hg:=κ hg;subst hg;split at j
   ·rename_i C r p hx0 U T;simp at j;obtain⟨h1,rfl⟩:=j;obtain⟨k1,k2⟩:=h C r p h1;refine⟨λw St J=>RAs (aI w St) [.val a C,.val b r,.val c p,.fn g .pnil] J,λl J hr=>?_,k1,k2⟩;match J,hr with
    |[v0,v1,v2,v3],⟨r0,r1,r2,r3,_⟩=>exact⟨⟨v0,rfl,(dat?_sound (c:=l) hx0 r0:RepV l.w l.St a C v0)⟩,⟨v1,rfl,(dat?_sound (c:=l) U r1:RepV l.w l.St b r v1)⟩,⟨v2,rfl,(dat?_sound (c:=l) T r2:RepV l.w l.St c p v2)⟩,CT r3,anO⟩
   ·cases j
  ·cases j
 ·cases j
def afy (g:FuncId)(a b c d:Ty)(G:a.den→b.den→c.den→d.den→Bool)(R:a.den→b.den→c.den→d.den→AV):Ent:=λargs=>match args with
 |[y0,y1,y2,y3,.fn g' .pnil]=>match Nat.beq g g' with
  |true=>match dat? a y0,dat? b y1,dat? c y2,dat? d y3 with|some p,some l,some j,some f=>some (G p l j f,R p l j f)|_,_,_,_=>none
  |false=>none
 |_=>none
def ab4 {a b c d:Ty}{G:a.den→b.den→c.den→d.den→Bool}{R:a.den→b.den→c.den→d.den→AV}
  (h:∀J C r p,G J C r p=true→bp P f∧∀w St,(∀b o,St b o→b<w.heap.size)→∀T,RAs (aI w St) [.val a J,.val b C,.val c r,.val d p,.fn g .pnil] T→Calls P f T.toArray w (GF w St (R J C r p))):aj P f (afy g a b c d G R):=λargs res l=>by
 unfold afy at l;split at l
 next y0 y1 y2 y3 g'=>
  split at l
  next hg=>
   have hg:=κ hg;subst hg;split at l
   ·rename_i J C r p hx0 hx1 hx2 U;simp at l;obtain⟨h1,rfl⟩:=l;obtain⟨k1,k2⟩:=h J C r p h1;refine⟨λw St T=>RAs (aI w St) [.val a J,.val b C,.val c r,.val d p,.fn g .pnil] T,λj T hr=>?_,k1,k2⟩;match T,hr with
    |[v0,v1,v2,v3,v4],⟨r0,r1,r2,r3,r4,_⟩=>exact⟨⟨v0,rfl,(dat?_sound (c:=j) hx0 r0:RepV j.w j.St a J v0)⟩,⟨v1,rfl,(dat?_sound (c:=j) hx1 r1:RepV j.w j.St b C v1)⟩,⟨v2,rfl,(dat?_sound (c:=j) hx2 r2:RepV j.w j.St c r v2)⟩,⟨v3,rfl,(dat?_sound (c:=j) U r3:RepV j.w j.St d p v3)⟩,CT r4,anO⟩
   ·cases l
  ·cases l
 ·cases l
abbrev Prt:=aw.den
def xA (a b:Prt):Int:=adI a.1.1 b.1.1
def YE (a b:Prt):Prop:=a.1.1<b.1.1
instance ptDec (a b:Prt):Decidable (YE a b):=inferInstanceAs (Decidable (_<_))
def Lw (l:List Prt):Bool:=l.length≤19&&l.Pairwise YE
def BW (l:List Prt)(a b:Int):Bool:=Lw l&&(decide (0≤a)&&decide (a≤b)&&decide (b≤(l.length:Int)))
def aie (_:List Prt)(_ _ _:Int):Bool:=false
def wS (l:List Prt)(n:Int):Bool:=Lw l&&decide (n=(l.length:Int))
def UP:TabL:={
 ty:=[(3,tInt),(4,.bool),(9,.str),(23,(.slice tInt)),(29,(.slice aw)),(36,(.slice aa)),(38,tCommit),(42,aO),(44,aa),(54,aw),(108,(.int .u64))],
 cells:=[(3,1),(4,1),(9,1),(23,1),(29,1),(36,1),(38,5),(42,4),(44,6),(54,6),(79,1),(108,1)],
 offs:=[((38,0),0),((38,1),1),((38,2),2),((38,3),3),((38,4),4),((42,0),0),((42,1),1),((42,2),2),((42,3),3),((44,0),0),((44,1),1),((44,2),2),((54,0),0),((54,1),5)],
 one:=[],
 elem:=[(23,3),(29,54),(36,44)] }
def Cu:TabOk prog UP.tab:=TabL.ok Φ
def Ll:List (Nat×Ent):=[(41,Lm)]
def aee:Par:=⟨UP.tab,aF Ll,λ_=>look [],λ_=>look []⟩
def aed:Code:=(f40.body).getD .skip
def TY:Fi:=⟨aee,12,[.tmp 4],aed⟩
def Bb (f:Nat)(a:aw.den)(b:aw.den):Option AV:=lH fi0 hs0 0 TY [tInt] f [.val aw a,.val aw b]
def aaO (f:Nat)(a:aw.den)(b:aw.den):Bb f a b=some (.val tInt (Pc (a.1.1) (b.1.1))):=Φ
def aaN:bD prog Ll→FiOk prog 40 (TY):=λh=>⟨⟨f40,func40,rfl,Φ,Φ,Φ⟩,Cu,af h⟩
def Lk:Ent:=sp2 aw aw (λ_ _=>true) λg f=>.val tInt (xA g f)
def WL (p:bD prog Ll)(h:∀(g:aw.den) (f:aw.den),∃j,Bb j g f=some (.val tInt (xA g f))):aj prog 40 Lk:=JE λg f _=>(let ⟨_,l⟩:=h g f;bi follows (λ_ _ h=>by cases h) er (aaN p) (ds:=[⟨_,g⟩,⟨_,f⟩]) l)
def zk:MS:=⟨0,[],[(0,.dat (.slice aw)),(1,.dat tInt),(2,.dat tInt),(3,.keep),(8,.dat tInt)]⟩
def N8:MS:=⟨0,[],[(0,.dat (.slice aw)),(1,.dat tInt),(2,.dat tInt),(3,.keep),(8,.dat tInt),(9,.dat tInt)]⟩
def Ru:List (Nat×Ent):=[(40,Lk)]
def Fs:Par:=⟨UP.tab,aF Ru,λ_=>look [],λ_=>look [(1,zk),(4,N8)]⟩
def KQ:Code:=(f121.body).getD .skip
def Zy:Fi:=⟨Fs,53,[],KQ⟩
def Tw:Code:=sub KQ [1,0,0]
def adF:Code:=sub KQ [1,0,0,1,0,0,1,0,0]
def adE:Code:=sub KQ [1,0,0,1,1]
def xo:KT:=bB UP.tab [] []
def zm (f:Nat)(n:Nat)(data:(List aw.den))(a:Int)(b:Int)(i:Int):Option AV:=aT 0 zk (λg k=>exec (bu fi0 hs0 f 0) Fs 0 f Tw g k) (am 0 xo) n ⟨mkE 53 [(0,.val (.slice aw) data),(1,.val tInt a),(2,.val tInt b),(3,.fn 40 (bh [])),(8,.val tInt i)],mkH 0 []⟩
def KP (f l:Nat)(n:Nat)(data:(List aw.den))(a:Int)(b:Int)(i:Int)(j:Int):Option AV:=aT 0 N8 (λg k=>exec (bu fi0 hs0 f 0) Fs 0 f adF g k) (am 2 (am 1 (be 0 none (λg k=>exec (bu fi0 hs0 f 0) Fs 0 f adE g k) (In 0 zk (aT 0 zk (λg k=>exec (bu fi0 hs0 f 0) Fs 0 f Tw g k) (am 0 xo) l) (am 0 xo))))) n ⟨mkE 53 [(0,.val (.slice aw) data),(1,.val tInt a),(2,.val tInt b),(3,.fn 40 (bh [])),(8,.val tInt i),(9,.val tInt j)],mkH 0 []⟩
def Fr (f:Nat)(data:(List aw.den))(a:Int)(b:Int):Option AV:=lH fi0 hs0 0 Zy [] f [.val (.slice aw) data,.val tInt a,.val tInt b,.fn 40 .pnil]
def Rr (f g:Nat)(data:(List aw.den))(a:Int)(b:Int)(i:Int):zm f (g+1) data a b i=cond (i<b) (KP f g f data a b i i) (some (.tup (bh []))):=Φ
def N9 (f g l:Nat)(data:(List aw.den))(a:Int)(b:Int)(i:Int)(j:Int):KP f g (l+1) data a b i j=cond (aN (decide (j>a)) (decide (j>a))&&(aN (decide (j>a)) (decide (j>a))&&true)&&aN (decide (j>a)) (0≤j&&j<(data.length:Int))) (cond (aN (decide (j>a)) (decide (j>a))&&true&&true) (cond (aN (decide (j>a)) (decide (j>a))&&true&&true) (cond (aN (decide (j>a)) (decide (j>a))&&(aN (decide (j>a)) (decide (j>a))&&true)&&aN (decide (j>a)) (0≤w64 (j-1)&&w64 (j-1)<(data.length:Int))) (cond (aN (decide (j>a)) (decide (j>a))&&true&&true) (cond (aN (decide (j>a)) (decide (j>a))&&(aN (decide (j>a)) (decide (j>a))&&(aN (decide (j>a)) (decide (j>a))&&true))&&true) (cond (aN (decide (j>a)) (decide (j>a))&&true&&true) (cond (aN (decide (j>a)) (decide (j>a))&&true) (cond (cond (j>a) (xA (ix aw data j) (ix aw data (w64 (j-1)))<0) false) none (zm f g data a b (w64 (i+1)))) none) none) none) none) none) none) none) none:=Φ
def Rq (f g l:Nat)(data:(List aw.den))(a:Int)(b:Int)(i:Int)(j:Int):KP f g (l+1) data a b i j=cond (aN (decide (j>a)) (0≤j&&j<(data.length:Int))) (cond (aN (decide (j>a)) (0≤w64 (j-1)&&w64 (j-1)<(data.length:Int))) (cond (cond (j>a) (xA (ix aw data j) (ix aw data (w64 (j-1)))<0) false) none (zm f g data a b (w64 (i+1)))) none) none:=by simpa only[aK,cd,z?,q?,O',E_,x?,p?,h?,r?,Int.reduceLE,Int.reduceEq,Int.reduceLT,b_]using N9 f g l data a b i j
def adD (f:Nat)(data:(List aw.den))(a:Int)(b:Int):Fr f data a b=(zm f f data a b (w64 (a+1))):=Φ
def adC:bD prog Ru→FiOk prog 121 (Zy):=λh=>⟨⟨f121,func121,rfl,Φ,Φ,Φ⟩,Cu,af h⟩
def Rs:Ent:=afz 40 (.slice aw) tInt tInt (λj g f=>BW j g f) λj g f=>.tup (bh [])
def Zx (C:bD prog Ru)(h:∀(l:(List aw.den)) (j:Int) (g:Int),BW l j g=true→∃f,Fr f l j g=some (.tup (bh []))):aj prog 121 Rs:=ab5 λl j g p=>(let ⟨_,r⟩:=h l j g p;iY follows (λ_ _ h=>by cases h) er (adC C) r)
def XS:Ent:=afy 40 (.slice aw) tInt tInt tInt (λl j g f=>aie l j g f) λl j g f=>.tup (bh [])
def uy:MS:=⟨0,[],[(0,.dat (.slice aw)),(1,.dat tInt),(2,.keep),(6,.dat tInt),(7,.dat tInt),(8,.dat tInt)]⟩
def pg:MS:=⟨0,[],[(0,.dat (.slice aw)),(1,.dat tInt),(2,.keep),(6,.dat tInt)]⟩
def JD:List (Nat×Ent):=[(121,Rs),(122,XS)]
def qD:Par:=⟨UP.tab,aF JD,λ_=>look [(16,pg)],λ_=>look [(2,uy),(7,pg),(9,uy)]⟩
def uz:Code:=(f69.body).getD .skip
def SF:Fi:=⟨qD,63,[],uz⟩
def X4:Code:=sub uz [1,1,0,0,0]
def X3:Code:=sub uz [1,1,1]
def My:Code:=sub uz [1,1,1,1,0,0]
def X2:Code:=sub uz [1,1,1,1,0,0,1,0,1,0,0,0]
def X1:Code:=sub uz [1,1,1,1,0,0,1,0,1,1]
def DJ (f:Nat)(n:Nat)(data:(List aw.den))(j:Int)(a:Int)(b:Int):Option AV:=aT 0 uy (λg k=>exec (bu fi0 hs0 f 0) qD 0 f X4 g k) (am 0 (be 0 none (λg k=>exec (bu fi0 hs0 f 0) qD 0 f X3 g k) xo)) n ⟨mkE 63 [(0,.val (.slice aw) data),(1,.val tInt j),(2,.fn 40 (bh [])),(6,.val tInt (20:Int)),(7,.val tInt a),(8,.val tInt b)],mkH 0 []⟩
def Mw (g:Nat)(n:Nat)(data:(List aw.den))(l:Int)(f:Int):Option AV:=aT 0 pg (λj k=>exec (bu fi0 hs0 g 0) qD 0 g My j k) (am 2 xo) n ⟨mkE 63 [(0,.val (.slice aw) data),(1,.val tInt l),(2,.fn 40 (bh [])),(6,.val tInt f)],mkH 0 []⟩
def XZ (f p:Nat)(n:Nat)(data:(List aw.den))(l:Int)(g:Int)(a:Int)(b:Int):Option AV:=aT 0 uy (λj k=>exec (bu fi0 hs0 f 0) qD 0 f X2 j k) (am 4 (be 0 none (λj k=>exec (bu fi0 hs0 f 0) qD 0 f X1 j k) (am 3 (In 0 pg (aT 0 pg (λj k=>exec (bu fi0 hs0 f 0) qD 0 f My j k) (am 2 xo) p) (am 2 xo))))) n ⟨mkE 63 [(0,.val (.slice aw) data),(1,.val tInt l),(2,.fn 40 (bh [])),(6,.val tInt g),(7,.val tInt a),(8,.val tInt b)],mkH 0 []⟩
def An (f:Nat)(data:(List aw.den))(g:Int):Option AV:=lH fi0 hs0 0 SF [] f [.val (.slice aw) data,.val tInt g,.fn 40 .pnil]
def Mx (f j:Nat)(data:(List aw.den))(g:Int)(a:Int)(b:Int):DJ f (j+1) data g a b=cond (b≤g) (cond (BW data a b) (DJ f j data g b (w64 (b+20))) none) (cond (BW data a g) (Mw f f data g 20) none):=Φ
def Mv (g l:Nat)(data:(List aw.den))(j:Int)(f:Int):Mw g (l+1) data j f=cond (f<j) (XZ g l g data j f 0 (w64 ((2:Int)*f))) (some (.tup (bh []))):=Φ
def X0 (f:Nat)(data:(List aw.den))(g:Int):An f data g=(DJ f f data g 0 20):=Φ
def XY:bD prog JD→FiOk prog 69 (SF):=λh=>⟨⟨f69,func69,rfl,Φ,Φ,Φ⟩,Cu,af h⟩
def JC:Ent:=afA 40 (.slice aw) tInt (λg f=>wS g f) λg f=>.tup (bh [])
def UU (r:bD prog JD)(h:∀(j:(List aw.den)) (g:Int),wS j g=true→∃f,An f j g=some (.tup (bh []))):aj prog 69 JC:=ab6 λj g l=>(let ⟨_,p⟩:=h j g l;iY follows (λ_ _ h=>by cases h) er (XY r) p)
def PW:List (Nat×Ent):=[(69,JC)]
def afw:Par:=⟨UP.tab,aF PW,λ_=>look [],λ_=>look []⟩
def afv:Code:=(f39.body).getD .skip
def X7:Fi:=⟨afw,9,[],afv⟩
def DK (f:Nat)(x:(List aw.den)):Option AV:=lH fi0 hs0 0 X7 [] f [.val (.slice aw) x,.fn 40 .pnil]
def ab3 (f:Nat)(x:(List aw.den)):DK f x=cond (wS x (x.length:Int)) (some (.tup (bh []))) none:=Φ
def ab2:bD prog PW→FiOk prog 39 (X7):=λh=>⟨⟨f39,func39,rfl,Φ,Φ,Φ⟩,Cu,af h⟩
def X6:Ent:=afB 40 (.slice aw) (λf=>Lw f) λf=>.tup (bh [])
def X5 (p:bD prog PW)(h:∀(g:(List aw.den)),Lw g=true→∃f,DK f g=some (.tup (bh []))):aj prog 39 X6:=ab7 λg j=>(let ⟨_,l⟩:=h g j;iY follows (λ_ _ h=>by cases h) er (ab2 p) l)
variable{l:List Prt}
def Gv:Lw l=true↔l.length≤19∧l.Pairwise YE:=by simp[Lw]
def Pa (x y:Prt):∃f,Bb f x y=some (.val tInt (xA x y)):=⟨0,by rw[aaO,aaS];rfl⟩
def Zq {i:Int}(g:0≤i)(f:i<l.length):ix aw l i=l[i.toNat]'Ω:=by unfold ix;rw[χ,ε Ω];rfl
def ahF (f:l.Pairwise YE){i j:Int}(p:0≤i)(r:i<j)(g:j<l.length):decide (xA (ix aw l j) (ix aw l i)<0)=false:=by have:=W_.1 f i.toNat j.toNat Ω Ω Ω;rw[Zq Ω g,Zq p Ω];refine df λh=>?_;have t:((l[i.toNat]'Ω).1.1:Int)<(l[j.toNat]'Ω).1.1:=this;unfold xA adI at h;rw[Θ (akd.2 (akp t)),E' t]at h;exact absurd h Ϛ
def TQ:Option AV:=some (.tup (bh []))
def Iu (f:Nat)(l:List Prt)(a b:Int)(r:l.length≤19)(p:l.Pairwise YE)(J:0≤a)(C:b≤l.length):∀(n:Nat) (i:Int),a<i→(b-i).toNat<n→zm (f+1) n l a b i=TQ
 |0,_,_,h=>Ω
 |n+1,i,h,h'=>by
  rw[Rr];by_cases g:i<b
  ·have T:decide (i>a)=true:=dt h;have R:(decide (0≤i)&&decide (i<(l.length:Int)))=true:=by rw[dt Ω,dt Ω];rfl
   have P:(decide (0≤i-1)&&decide (i-1<(l.length:Int)))=true:=by rw[dt Ω,dt Ω];rfl
   rw[dt g,O',Rq,qp (n:=i-1) Ω Ω,qp (n:=i+1) Ω Ω,ahF p (i:=i-1) (j:=i) Ω Ω Ω,Iu f l a b r p J C n (i+1) Ω Ω];simp only[T,R,P,adG,r?,Bool.false_or,O',E_]
  ·rw[df g];rfl
def Rp (l:List Prt)(a b:Int)(h:BW l a b=true):∃f,Fr f l a b=TQ:=by simp[BW]at h;obtain⟨h,⟨p,r⟩,h2⟩:=h;obtain⟨g,j⟩:=Gv.1 h;refine⟨l.length+1, ?_⟩;rw[adD,qp Ω Ω];exact Iu _ l a b g j p h2 _ (a+1) Ω Ω
def Mu (l:List Prt)(n:Int)(h:wS l n=true):∃f,An f l n=TQ:=by simp[wS]at h;obtain⟨h,rfl⟩:=h;obtain⟨g,j⟩:=Gv.1 h;refine⟨1, ?_⟩;rw[X0,Mx,df Ω,E_,show BW l 0 (l.length:Int)=true by simp[BW,h],O',Mv,df Ω];rfl
def PU (l:List Prt)(h:Lw l=true):∃f,DK f l=TQ :=
 ⟨0,by rw[ab3,show wS l (l.length:Int)=true by simp[wS,h]];rfl⟩
def aec:aj prog 40 Lk:=WL ⟨agY,anO⟩ Pa
def agv:aj prog 121 Rs:=Zx ⟨aec,anO⟩ Rp
def afs:aj prog 122 XS:=ab4 λl a m b h=>by cases h
def ab1:aj prog 69 JC:=UU ⟨agv,afs,anO⟩ Mu
def afu:aj prog 39 X6:=X5 ⟨ab1,anO⟩ PU
