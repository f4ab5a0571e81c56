/- Every function's contract. -/
import Derived.Test.YteiopcmalidhaaaGreatGenG
set_option linter.all false
noncomputable section
namespace Go.Proofs.YteiopcmalidhaaaGreat
namespace Abs
abbrev eM:Ty:=(.cons tInt (.cons aM .unit))
abbrev ae:Ty:=.cons tInt (.cons tInt (.cons (.slice eM) .unit))
abbrev ag:Ty:=(.cons (.slice ae) .unit)
abbrev Val:=aM.den
abbrev Alt:=eM.den
abbrev Slt:=ae.den
abbrev Sta:=ag.den
abbrev Cel:=tCell.den
abbrev Mdl:=aN.den
def zv:Val:=(0,false,[],0,())
def ahd (i f i2 g:Int):Bool:=i<i2||i=i2&&f<g
def acz (l:List Alt):Bool:=decide (l.length≤1048576)
def stG (s:Sta):Bool:=s.1.length≤1048576&&s.1.all λx=>!x.2.2.1.isEmpty&&acz x.2.2.1
def tu (x:Slt):Val:=match x.2.2.1 with|a::_=>a.2.1|[]=>zv
def eY (s:Sta):Mdl:=((s.1.filter λx=>!eqD aM (tu x) zv).map λx=>(x.1,x.2.1,tu x,()),())
def jS (a b:Slt):Prop:=ahd a.1 a.2.1 b.1 b.2.1=true
instance slotDec (a b:Slt):Decidable (jS a b):=inferInstanceAs (Decidable (_=true))
def adG (l:List Slt):Bool:=decide (l.Pairwise jS)
def cg (s:Sta)(_ _:Int):Bool:=s.1.length≤1048576&&adG s.1
def before (s:Sta)(id field:Int):List Slt:=s.1.takeWhile λx=>ahd x.1 x.2.1 id field
def mE (s:Sta)(id field:Int):List Slt:=s.1.dropWhile λx=>ahd x.1 x.2.1 id field
def ac (s:Sta)(id field:Int):Int:=((before s id field).length:Int)
def iw (s:Sta)(id field:Int):List Alt:=match mE s id field with
 |x::_=>if x.1=id∧x.2.1=field then x.2.2.1 else[]
 |[]=>[]
def Wf (id field:Int):List Slt→List Slt
 |x::r=>if x.1=id∧x.2.1=field then r else x::r
 |[]=>[]
def oh (s:Sta)(id field:Int)(l:List Alt):Sta:=(before s id field++(if l.isEmpty then[]else[(id,field,l,())])++Wf id field (mE s id field),())
def abu (s:Sta)(id field:Int)(_:List Alt):Bool:=cg s id field
open Go Tryz
def I7:TabL:={
 ty:=[(3,tInt),(4,.bool),(9,.str),(36,aM),(39,(.slice tCell)),(45,(.slice ae)),(47,ag),(65,tCell),(76,aN),(86,(.slice eM)),(89,eM),(128,ae)],
 cells:=[(3,1),(4,1),(9,1),(36,4),(39,1),(45,1),(47,1),(65,6),(76,1),(86,1),(89,5),(128,3)],
 offs:=[((36,0),0),((36,1),1),((36,2),2),((36,3),3),((47,0),0),((65,0),0),((65,1),1),((65,2),2),((76,0),0),((89,0),0),((89,1),1),((128,0),0),((128,1),1),((128,2),2)],
 one:=[],
 elem:=[(39,65),(45,128),(86,89)] }
def xA:TabOk prog I7.tab:=TabL.ok Φ
def tP (id:Int)(field:Int)(g:Int)(f:Int):Bool:=cond (id<g) true (cond (id=g) (decide (field<f)) false)
def Cv:List (Nat×Ent):=[]
def adO:Par:=⟨I7.tab,aE Cv,λ_=>look [],λ_=>look []⟩
def adN:Code:=(f139.body).getD .skip
def TZ:Fi:=⟨adO,22,[.tmp 8],adN⟩
def AD (g:Nat)(id:Int)(field:Int)(j:Int)(f:Int):Option AV:=sf fi0 hs0 0 TZ [.bool] g [.val tInt id,.val tInt field,.val tInt j,.val tInt f]
def WF (j:Nat)(id:Int)(field:Int)(f:Int)(g:Int):AD j id field f g=cond (be (!id<f) (!id<f)&&(be (!id<f) (!id<f)&&true)&&true) (cond (be (!id<f) (!id<f)&&true&&true) (cond (be (!id<f&&id=f) (!id<f&&id=f)&&(be (!id<f&&id=f) (!id<f&&id=f)&&true)&&true) (cond (be (!id<f) (!id<f)&&be (!id<f) (be (!id<f&&id=f) (!id<f&&id=f)&&true)) (cond (be (!id<f) (!id<f)) (some (.val .bool (cond (id<f) true (cond (id=f) (decide (field<g)) false)))) none) none) none) none) none:=Φ
def aa5 (j:Nat)(id:Int)(field:Int)(g:Int)(f:Int):AD j id field g f=some (.val .bool (cond (id<g) true (cond (id=g) (decide (field<f)) false))):=by simpa only[aL,cE,P?,r?,G',E_,p?,c?,i?,O?,Int.reduceLE,Int.reduceEq,Int.reduceLT,Z']using WF j id field g f
def aa4:dM prog Cv→FiOk prog 139 (TZ):=λh=>⟨⟨f139,func139,rfl,Φ,Φ,Φ⟩,xA,af h⟩
def vp:Ent:=sp4 tInt tInt tInt tInt (λ_ _ _ _=>true) λl j g f=>.val .bool (tP l j g f)
def WG (C:dM prog Cv)(h:∀(l:Int) (j:Int) (g:Int) (f:Int),∃p,AD p l j g f=some (.val .bool (tP l j g f))):ai prog 139 vp:=Xm λl j g f _=>(let ⟨_,r⟩:=h l j g f;bJ follows (λ_ _ h=>by cases h) jW (aa4 C) (ds:=[⟨_,l⟩,⟨_,j⟩,⟨_,g⟩,⟨_,f⟩]) r)
def WH (j:dM prog Cv):ai prog 139 vp:=WG j (λid field g f=>⟨0,by rw[aa5];first|rfl|(simp only[pW];rfl)⟩)
def lZ:MS:=⟨3,[(0,[.dat (.slice ae)]),(1,[.own tCell 65]),(2,[.own tCell 65])],[(1,.keep),(2,.keep),(3,.keep),(4,.dat tInt)]⟩
def Ek:List (Nat×Ent):=[]
def l5:Par:=⟨I7.tab,aE Ek,λ_=>look [(4,lZ)],λ_=>look [(3,lZ)]⟩
def yt:Code:=(f97.body).getD .skip
def Ns:Fi:=⟨l5,41,[.cell 2 76],yt⟩
def HS:Code:=sub yt [1,1,0,1,0,0]
def z7:Code:=sub yt [1,1,1]
def Vt:Code:=sub yt [1,1,0,1,0,0,1,1]
def El:KT:=bw I7.tab [.cell 2 76] [aN]
def uE (f:Nat)(n:Nat)(s:ag.den)(i:Int)(g:(List tCell.den)):Option AV:=aW 0 lZ (λj k=>exec (bN fi0 hs0 f 0) l5 0 f HS j k) (am 0 (bc 0 none (λj k=>exec (bN fi0 hs0 f 0) l5 0 f z7 j k) El)) n ⟨mkE 41 [(1,.box 0 0),(2,.box 1 0),(3,.box 2 0),(4,.val tInt i)],mkH 5 [(0,.box [.val (.slice ae) s.1]),(1,.box [.own 3 0 tCell []]),(2,.box [.own 4 0 tCell g]),(3,.row tCell 65 0),(4,.row tCell 65 0)]⟩
def z6 (f l:Nat)(i:Int)(s:ag.den)(j:(List tCell.den)):Option AV:=exec (bN fi0 hs0 f 0) l5 0 f Vt ⟨mkE 41 [(1,.box 0 0),(2,.box 1 0),(3,.box 2 0),(4,.val tInt i)],mkH 5 [(0,.box [.val (.slice ae) s.1]),(1,.box [.own 3 0 tCell []]),(2,.box [.own 4 0 tCell j]),(3,.row tCell 65 0),(4,.row tCell 65 0)]⟩ (S6 0 lZ (aW 0 lZ (λg k=>exec (bN fi0 hs0 f 0) l5 0 f HS g k) (am 0 (bc 0 none (λg k=>exec (bN fi0 hs0 f 0) l5 0 f z7 g k) El)) l) (am 0 (bc 0 none (λg k=>exec (bN fi0 hs0 f 0) l5 0 f z7 g k) El)))
def wN (f:Nat)(s:ag.den):Option AV:=sf fi0 hs0 0 Ns [aN] f [.val ag s]
def yp (g j:Nat)(s:ag.den)(i:Int)(f:(List tCell.den)):uE g (j+1) s i f=cond (i<(s.1.length:Int)) (cond (0≤i&&i<(s.1.length:Int)) (cond (0≤(0:Int)&&0<((ix ae s.1 i).2.2.1.length:Int)) (cond (!eqD aM (ix eM (ix ae s.1 i).2.2.1 0).2.1 (0,false,[],0,())) (cond (0≤(0:Int)&&0<((ix ae s.1 i).2.2.1.length:Int)) (cond (List.length f+List.length ([((ix ae s.1 i).1,(ix ae s.1 i).2.1,(ix eM (ix ae s.1 i).2.2.1 0).2.1,())]:List tCell.den)≤LIM) (z6 g j i s (f++[((ix ae s.1 i).1,(ix ae s.1 i).2.1,(ix eM (ix ae s.1 i).2.2.1 0).2.1,())])) none) none) (z6 g j i s f)) none) none) (some (.val aN (f,()))):=Φ
def yq (f j:Nat)(i:Int)(s:ag.den)(g:(List tCell.den)):z6 f j i s g=(uE f j s (w64 (i+1)) g):=Φ
def Vs (f:Nat)(s:ag.den):wN f s=(uE f f s 0 []):=Φ
def Vr:dM prog Ek→FiOk prog 97 (Ns):=λh=>⟨⟨f97,func97,rfl,Φ,Φ,Φ⟩,xA,af h⟩
def Ej:Ent:=sp1 ag (λf=>stG f) λf=>.val aN (eY f)
def QN (p:dM prog Ek)(h:∀(f:ag.den),stG f=true→∃g,wN g f=some (.val aN (eY f))):ai prog 97 Ej:=ol λf j=>(let ⟨_,l⟩:=h f j;bJ follows (λ_ _ h=>by cases h) jW (Vr p) (ds:=[⟨_,f⟩]) l)
def DG:MS:=⟨1,[(0,[.dat (.slice ae)])],[(1,.dat tInt),(2,.dat tInt),(3,.keep),(7,.dat tInt),(8,.dat tInt)]⟩
def DI:List (Nat×Ent):=[(139,vp)]
def DJ:Par:=⟨I7.tab,aE DI,λ_=>look [],λ_=>look [(2,DG)]⟩
def DH:Code:=(f78.body).getD .skip
def MQ:Fi:=⟨DJ,39,[.tmp 6],DH⟩
def U5:Code:=sub DH [1,1,0,0,0]
def U4:Code:=sub DH [1,1,1]
def X9:KT:=bw I7.tab [.tmp 6] [tInt]
def gz (f:Nat)(n:Nat)(id:Int)(field:Int)(s:ag.den)(j:Int)(l:Int):Option AV:=aW 0 DG (λg k=>exec (bN fi0 hs0 f 0) DJ 0 f U5 g k) (am 0 (bc 0 none (λg k=>exec (bN fi0 hs0 f 0) DJ 0 f U4 g k) X9)) n ⟨mkE 39 [(1,.val tInt id),(2,.val tInt field),(3,.box 0 0),(7,.val tInt j),(8,.val tInt l)],mkH 1 [(0,.box [.val (.slice ae) s.1])]⟩
def wF (f:Nat)(s:ag.den)(id:Int)(field:Int):Option AV:=sf fi0 hs0 0 MQ [tInt] f [.val ag s,.val tInt id,.val tInt field]
def F1 (j l:Nat)(id:Int)(field:Int)(s:ag.den)(f:Int)(g:Int):gz j (l+1) id field s f g=cond (f<g) (cond (!(2:Int)=0) (cond (0≤w64 (Int.tdiv (w64 (f+g)) 2)&&w64 (Int.tdiv (w64 (f+g)) 2)<(s.1.length:Int)) (cond (0≤w64 (Int.tdiv (w64 (f+g)) 2)&&w64 (Int.tdiv (w64 (f+g)) 2)<(s.1.length:Int)) (cond (tP (ix ae s.1 (w64 (Int.tdiv (w64 (f+g)) 2))).1 (ix ae s.1 (w64 (Int.tdiv (w64 (f+g)) 2))).2.1 id field) (gz j l id field s (w64 (w64 (Int.tdiv (w64 (f+g)) 2)+1)) g) (gz j l id field s f (w64 (Int.tdiv (w64 (f+g)) 2)))) none) none) none) (some (.val tInt f)):=Φ
def JN (f l:Nat)(id:Int)(field:Int)(s:ag.den)(g:Int)(j:Int):gz f (l+1) id field s g j=cond (g<j) (cond (0≤w64 (Int.tdiv (w64 (g+j)) 2)&&w64 (Int.tdiv (w64 (g+j)) 2)<(s.1.length:Int)) (cond (0≤w64 (Int.tdiv (w64 (g+j)) 2)&&w64 (Int.tdiv (w64 (g+j)) 2)<(s.1.length:Int)) (cond (tP (ix ae s.1 (w64 (Int.tdiv (w64 (g+j)) 2))).1 (ix ae s.1 (w64 (Int.tdiv (w64 (g+j)) 2))).2.1 id field) (gz f l id field s (w64 (w64 (Int.tdiv (w64 (g+j)) 2)+1)) j) (gz f l id field s g (w64 (Int.tdiv (w64 (g+j)) 2)))) none) none) (some (.val tInt g)):=by simpa only[aL,cE,P?,r?,G',E_,p?,c?,i?,O?,Int.reduceLE,Int.reduceEq,Int.reduceLT,Z']using F1 f l id field s g j
def U3 (f:Nat)(s:ag.den)(id:Int)(field:Int):wF f s id field=(gz f f id field s 0 (s.1.length:Int)):=Φ
def U2:dM prog DI→FiOk prog 78 (MQ):=λh=>⟨⟨f78,func78,rfl,Φ,Φ,Φ⟩,xA,af h⟩
def x8:Ent:=sp3 ag tInt tInt (λj g f=>cg j g f) λj g f=>.val tInt (ac j g f)
def Qe (C:dM prog DI)(h:∀(j:ag.den) (g:Int) (f:Int),cg j g f=true→∃l,wF l j g f=some (.val tInt (ac j g f))):ai prog 78 x8:=Xn λj g f p=>(let ⟨_,r⟩:=h j g f p;bJ follows (λ_ _ h=>by cases h) jW (U2 C) (ds:=[⟨_,j⟩,⟨_,g⟩,⟨_,f⟩]) r)
def K7:List (Nat×Ent):=[(78,x8)]
def adJ:Par:=⟨I7.tab,aE K7,λ_=>look [],λ_=>look []⟩
def adI:Code:=(f47.body).getD .skip
def TW:Fi:=⟨adJ,43,[.tmp 6],adI⟩
def vk (f:Nat)(s:ag.den)(id:Int)(field:Int):Option AV:=sf fi0 hs0 0 TW [.slice eM] f [.val ag s,.val tInt id,.val tInt field]
def WC (f:Nat)(s:ag.den)(id:Int)(field:Int):vk f s id field=cond (cg s id field) (cond (be (decide (ac s id field<(s.1.length:Int))) (decide (ac s id field<(s.1.length:Int)))&&true&&true) (cond (be (decide (ac s id field<(s.1.length:Int))) (decide (ac s id field<(s.1.length:Int)))&&(be (decide (ac s id field<(s.1.length:Int))) (decide (ac s id field<(s.1.length:Int)))&&true)&&be (decide (ac s id field<(s.1.length:Int))) (0≤ac s id field&&ac s id field<(s.1.length:Int))) (cond (be (decide (ac s id field<(s.1.length:Int))) (decide (ac s id field<(s.1.length:Int)))&&true&&true) (cond (be (decide (ac s id field<(s.1.length:Int))) (decide (ac s id field<(s.1.length:Int)))&&true&&true) (cond (be (decide (ac s id field<(s.1.length:Int))) (decide (ac s id field<(s.1.length:Int)))&&(be (decide (ac s id field<(s.1.length:Int))) (decide (ac s id field<(s.1.length:Int)))&&true)&&true) (cond (be (decide (ac s id field<(s.1.length:Int))) (decide (ac s id field<(s.1.length:Int)))&&true) (cond (be (cond (ac s id field<(s.1.length:Int)) (decide ((ix ae s.1 (ac s id field)).1=id)) false) (cond (ac s id field<(s.1.length:Int)) (decide ((ix ae s.1 (ac s id field)).1=id)) false)&&true&&true) (cond (be (cond (ac s id field<(s.1.length:Int)) (decide ((ix ae s.1 (ac s id field)).1=id)) false) (cond (ac s id field<(s.1.length:Int)) (decide ((ix ae s.1 (ac s id field)).1=id)) false)&&(be (cond (ac s id field<(s.1.length:Int)) (decide ((ix ae s.1 (ac s id field)).1=id)) false) (cond (ac s id field<(s.1.length:Int)) (decide ((ix ae s.1 (ac s id field)).1=id)) false)&&true)&&be (cond (ac s id field<(s.1.length:Int)) (decide ((ix ae s.1 (ac s id field)).1=id)) false) (0≤ac s id field&&ac s id field<(s.1.length:Int))) (cond (be (cond (ac s id field<(s.1.length:Int)) (decide ((ix ae s.1 (ac s id field)).1=id)) false) (cond (ac s id field<(s.1.length:Int)) (decide ((ix ae s.1 (ac s id field)).1=id)) false)&&true&&true) (cond (be (cond (ac s id field<(s.1.length:Int)) (decide ((ix ae s.1 (ac s id field)).1=id)) false) (cond (ac s id field<(s.1.length:Int)) (decide ((ix ae s.1 (ac s id field)).1=id)) false)&&true&&true) (cond (be (cond (ac s id field<(s.1.length:Int)) (decide ((ix ae s.1 (ac s id field)).1=id)) false) (cond (ac s id field<(s.1.length:Int)) (decide ((ix ae s.1 (ac s id field)).1=id)) false)&&(be (cond (ac s id field<(s.1.length:Int)) (decide ((ix ae s.1 (ac s id field)).1=id)) false) (cond (ac s id field<(s.1.length:Int)) (decide ((ix ae s.1 (ac s id field)).1=id)) false)&&true)&&true) (cond (be (cond (ac s id field<(s.1.length:Int)) (decide ((ix ae s.1 (ac s id field)).1=id)) false) (cond (ac s id field<(s.1.length:Int)) (decide ((ix ae s.1 (ac s id field)).1=id)) false)&&true) (cond (cond (cond (ac s id field<(s.1.length:Int)) ((ix ae s.1 (ac s id field)).1=id) false) ((ix ae s.1 (ac s id field)).2.1=field) false) (cond (0≤ac s id field&&ac s id field<(s.1.length:Int)) (some (.val (.slice eM) (ix ae s.1 (ac s id field)).2.2.1)) none) (some (.val (.slice eM) []))) none) none) none) none) none) none) none) none) none) none) none) none) none:=Φ
def aaV (f:Nat)(s:ag.den)(id:Int)(field:Int):vk f s id field=cond (cg s id field) (cond (be (decide (ac s id field<(s.1.length:Int))) (0≤ac s id field&&ac s id field<(s.1.length:Int))) (cond (be (cond (ac s id field<(s.1.length:Int)) (decide ((ix ae s.1 (ac s id field)).1=id)) false) (0≤ac s id field&&ac s id field<(s.1.length:Int))) (cond (cond (cond (ac s id field<(s.1.length:Int)) ((ix ae s.1 (ac s id field)).1=id) false) ((ix ae s.1 (ac s id field)).2.1=field) false) (cond (0≤ac s id field&&ac s id field<(s.1.length:Int)) (some (.val (.slice eM) (ix ae s.1 (ac s id field)).2.2.1)) none) (some (.val (.slice eM) []))) none) none) none:=by simpa only[aL,cE,P?,r?,G',E_,p?,c?,i?,O?,Int.reduceLE,Int.reduceEq,Int.reduceLT,Z']using WC f s id field
def aaU:dM prog K7→FiOk prog 47 (TW):=λh=>⟨⟨f47,func47,rfl,Φ,Φ,Φ⟩,xA,af h⟩
def Cu:Ent:=sp3 ag tInt tInt (λj g f=>cg j g f) λj g f=>.val (.slice eM) (iw j g f)
def WD (C:dM prog K7)(h:∀(j:ag.den) (g:Int) (f:Int),cg j g f=true→∃l,vk l j g f=some (.val (.slice eM) (iw j g f))):ai prog 47 Cu:=Xn λj g f p=>(let ⟨_,r⟩:=h j g f p;bJ follows (λ_ _ h=>by cases h) jW (aaU C) (ds:=[⟨_,j⟩,⟨_,g⟩,⟨_,f⟩]) r)
def Xt:MS:=⟨2,[(0,[.dat (.slice ae)]),(1,[.own ae 128])],[(1,.dat tInt),(2,.dat tInt),(4,.keep),(8,.keep),(9,.dat tInt),(10,.own ae 128)]⟩
def Xs:MS:=⟨2,[(0,[.dat (.slice ae)]),(1,[.own ae 128])],[(4,.keep),(8,.keep),(9,.dat tInt),(10,.own ae 128)]⟩
def PR:List (Nat×Ent):=[(78,x8)]
def PS:Par:=⟨I7.tab,aE PR,λ_=>look [(5,Xt),(7,Xs)],λ_=>look []⟩
def PQ:Code:=(f141.body).getD .skip
def Xw:Fi:=⟨PS,65,[.cell 8 47],PQ⟩
def abt:Code:=sub PQ [1,1,1,1]
def abr:Code:=sub PQ [1,1,1,1,1]
def Xv:KT:=bw I7.tab [.cell 8 47] [ag]
def xJ (f:Nat)(id:Int)(field:Int)(s:ag.den)(out:(List ae.den)):Option AV:=exec (bN fi0 hs0 f 0) PS 0 f abt ⟨mkE 65 [(1,.val tInt id),(2,.val tInt field),(4,.box 0 0),(8,.box 1 0),(9,.val tInt (ac s id field)),(10,.own 3 0 ae out)],mkH 4 [(0,.box [.val (.slice ae) s.1]),(1,.box [.own 2 0 ae []]),(2,.row ae 128 0),(3,.row ae 128 0)]⟩ Xv
def ul (f:Nat)(out:(List ae.den))(s:ag.den)(g:Int):Option AV:=exec (bN fi0 hs0 f 0) PS 0 f abr ⟨mkE 65 [(4,.box 0 0),(8,.box 1 0),(9,.val tInt g),(10,.own 3 0 ae out)],mkH 4 [(0,.box [.val (.slice ae) s.1]),(1,.box [.own 2 0 ae []]),(2,.row ae 128 0),(3,.row ae 128 0)]⟩ Xv
def C6 (f:Nat)(s:ag.den)(id:Int)(field:Int)(l:(List eM.den)):Option AV:=sf fi0 hs0 0 Xw [ag] f [.val ag s,.val tInt id,.val tInt field,.val (.slice eM) l]
def Ma (f:Nat)(id:Int)(field:Int)(s:ag.den)(out:(List ae.den)):xJ f id field s out=cond (be (decide (ac s id field<(s.1.length:Int))) (decide (ac s id field<(s.1.length:Int)))&&true&&true) (cond (be (decide (ac s id field<(s.1.length:Int))) (decide (ac s id field<(s.1.length:Int)))&&(be (decide (ac s id field<(s.1.length:Int))) (decide (ac s id field<(s.1.length:Int)))&&true)&&be (decide (ac s id field<(s.1.length:Int))) (0≤ac s id field&&ac s id field<(s.1.length:Int))) (cond (be (decide (ac s id field<(s.1.length:Int))) (decide (ac s id field<(s.1.length:Int)))&&true&&true) (cond (be (decide (ac s id field<(s.1.length:Int))) (decide (ac s id field<(s.1.length:Int)))&&true&&true) (cond (be (decide (ac s id field<(s.1.length:Int))) (decide (ac s id field<(s.1.length:Int)))&&(be (decide (ac s id field<(s.1.length:Int))) (decide (ac s id field<(s.1.length:Int)))&&true)&&true) (cond (be (decide (ac s id field<(s.1.length:Int))) (decide (ac s id field<(s.1.length:Int)))&&true) (cond (be (cond (ac s id field<(s.1.length:Int)) (decide ((ix ae s.1 (ac s id field)).1=id)) false) (cond (ac s id field<(s.1.length:Int)) (decide ((ix ae s.1 (ac s id field)).1=id)) false)&&true&&true) (cond (be (cond (ac s id field<(s.1.length:Int)) (decide ((ix ae s.1 (ac s id field)).1=id)) false) (cond (ac s id field<(s.1.length:Int)) (decide ((ix ae s.1 (ac s id field)).1=id)) false)&&(be (cond (ac s id field<(s.1.length:Int)) (decide ((ix ae s.1 (ac s id field)).1=id)) false) (cond (ac s id field<(s.1.length:Int)) (decide ((ix ae s.1 (ac s id field)).1=id)) false)&&true)&&be (cond (ac s id field<(s.1.length:Int)) (decide ((ix ae s.1 (ac s id field)).1=id)) false) (0≤ac s id field&&ac s id field<(s.1.length:Int))) (cond (be (cond (ac s id field<(s.1.length:Int)) (decide ((ix ae s.1 (ac s id field)).1=id)) false) (cond (ac s id field<(s.1.length:Int)) (decide ((ix ae s.1 (ac s id field)).1=id)) false)&&true&&true) (cond (be (cond (ac s id field<(s.1.length:Int)) (decide ((ix ae s.1 (ac s id field)).1=id)) false) (cond (ac s id field<(s.1.length:Int)) (decide ((ix ae s.1 (ac s id field)).1=id)) false)&&true&&true) (cond (be (cond (ac s id field<(s.1.length:Int)) (decide ((ix ae s.1 (ac s id field)).1=id)) false) (cond (ac s id field<(s.1.length:Int)) (decide ((ix ae s.1 (ac s id field)).1=id)) false)&&(be (cond (ac s id field<(s.1.length:Int)) (decide ((ix ae s.1 (ac s id field)).1=id)) false) (cond (ac s id field<(s.1.length:Int)) (decide ((ix ae s.1 (ac s id field)).1=id)) false)&&true)&&true) (cond (be (cond (ac s id field<(s.1.length:Int)) (decide ((ix ae s.1 (ac s id field)).1=id)) false) (cond (ac s id field<(s.1.length:Int)) (decide ((ix ae s.1 (ac s id field)).1=id)) false)&&true) (cond (cond (cond (ac s id field<(s.1.length:Int)) ((ix ae s.1 (ac s id field)).1=id) false) ((ix ae s.1 (ac s id field)).2.1=field) false) (ul f out s (w64 (ac s id field+1))) (ul f out s (ac s id field))) none) none) none) none) none) none) none) none) none) none) none) none:=Φ
def PO (f:Nat)(id:Int)(field:Int)(s:ag.den)(out:(List ae.den)):xJ f id field s out=cond (be (decide (ac s id field<(s.1.length:Int))) (0≤ac s id field&&ac s id field<(s.1.length:Int))) (cond (be (cond (ac s id field<(s.1.length:Int)) (decide ((ix ae s.1 (ac s id field)).1=id)) false) (0≤ac s id field&&ac s id field<(s.1.length:Int))) (cond (cond (cond (ac s id field<(s.1.length:Int)) ((ix ae s.1 (ac s id field)).1=id) false) ((ix ae s.1 (ac s id field)).2.1=field) false) (ul f out s (w64 (ac s id field+1))) (ul f out s (ac s id field))) none) none:=by simpa only[aL,cE,P?,r?,G',E_,p?,c?,i?,O?,Int.reduceLE,Int.reduceEq,Int.reduceLT,Z']using Ma f id field s out
def PN (g:Nat)(out:(List ae.den))(s:ag.den)(f:Int):ul g out s f=cond (0≤f&&f≤(s.1.length:Int)) (cond (List.length out+List.length ((List.take (List.length s.1) s.1).drop (Int.toNat f))≤LIM) (some (.val ag (out++(List.take (List.length s.1) s.1).drop (Int.toNat f),()))) none) none:=Φ
def abq (f:Nat)(s:ag.den)(id:Int)(field:Int)(l:(List eM.den)):C6 f s id field l=cond (cg s id field) (cond (0≤ac s id field&&ac s id field≤(s.1.length:Int)) (cond (List.length ([]:List ae.den)+List.length ((List.take (Int.toNat (ac s id field)) s.1).drop 0)≤LIM) (cond ((l.length:Int)>0) (cond (List.length ([]++(List.take (Int.toNat (ac s id field)) s.1).drop 0)+List.length ([(id,field,l,())]:List ae.den)≤LIM) (xJ f id field s ([]++(List.take (Int.toNat (ac s id field)) s.1).drop 0++[(id,field,l,())])) none) (xJ f id field s ([]++(List.take (Int.toNat (ac s id field)) s.1).drop 0))) none) none) none:=Φ
def abp:dM prog PR→FiOk prog 141 (Xw):=λh=>⟨⟨f141,func141,rfl,Φ,Φ,Φ⟩,xA,af h⟩
def PP:Ent:=sp4 ag tInt tInt (.slice eM) (λl j g f=>abu l j g f) λl j g f=>.val ag (oh l j g f)
def Xu (J:dM prog PR)(h:∀(l:ag.den) (j:Int) (g:Int) (f:(List eM.den)),abu l j g f=true→∃p,C6 p l j g f=some (.val ag (oh l j g f))):ai prog 141 PP:=Xm λl j g f r=>(let ⟨_,C⟩:=h l j g f r;bJ follows (λ_ _ h=>by cases h) jW (abp J) (ds:=[⟨_,l⟩,⟨_,j⟩,⟨_,g⟩,⟨_,f⟩]) C)
def zF {n:Int}(g : -9223372036854775808≤n)(f:n<9223372036854775808):w64 n=n:=by unfold w64;simp[IntKind.wrap,IntKind.bits,IntKind.signed];omega
def abf {n:Nat}(h:n<9223372036854775808):w64 (n:Int)=n:=zF Ω Ω
variable{t:Ty}{p:Prop}{s:Sta}
def dh (p:List t.den)(c:t.den)(r:List t.den):ix t (p++c::r) (p.length:Int)=c:=by simp[ix]
def Kg (p:List t.den)(c:t.den)(r:List t.den):decide ((p.length:Int)<((p++c::r).length:Int))=true:=by simp;omega
def QR (p:List t.den):decide ((p.length:Int)<((p++[]).length:Int))=false:=by simp
def YB (p:List t.den):decide (0≤(p.length:Int))=true:=by simp
def QA (p:List t.den)(c:t.den)(h:p.length<9223372036854775807):w64 ((p.length:Int)+1)=((p++[c]).length:Int):=by rw[zF Ω Ω];simp
def agi (p:List t.den)(c:t.den)(r:List t.den):p++c::r=(p++[c])++r:=by simp
def dt [Decidable p](h:p):decide p=true:=H_ h
def df [Decidable p](h:¬p):decide p=false:=aji h
def vq (i f i2 g:Int):tP i f i2 g=ahd i f i2 g:=by unfold tP ahd;by_cases p:i<i2 <;> by_cases l:i=i2 <;> by_cases j:f<g <;> simp[p,l,j]
def KI:∀(t:Ty) (x y:t.den),eqD t x y=true→x=y
 |.int _,x,y,h=>by simpa[eqD]using h
 |.bool,x,y,h=>by simpa[eqD]using h
 |.str,x,y,h=>by simpa[eqD]using h
 |.unit,_,_,_=>rfl
 |.cons a b,x,y,h=>by simp[eqD]at h;exact Prod.ext (KI a _ _ h.1) (KI b _ _ h.2)
 |.slice _,_,_,h=>by simp[eqD]at h
 |.tree,_,_,h=>by simp[eqD]at h
def acB (c:t.den)(r:List t.den):ix t (c::r) 0=c:=rfl
def QM (x:Slt)(r:List Slt):(eY (x::r,())).1=(bif !eqD aM (tu x) zv then[(x.1,x.2.1,tu x,())]else[])++(eY (r,())).1:=by simp[eY,ajX];cases eqD aM (tu x) zv <;> simp
def Uz (h:stG s=true):s.1.length≤1048576∧∀x∈s.1,x.2.2.1≠[]∧x.2.2.1.length≤1048576:=by simp only[stG,κ,ρ,T']at h;refine⟨h.1,λx f=>?_⟩;have:=h.2 x f;simp[acz]at this;exact⟨λe=>by rw[e]at this;simp at this,this.2⟩
def Nr (C:Nat)(u:Unit):∀(n:Nat) (r p:List Slt) (f:List Cel),r.length<n→(p++r).length≤1048576→(∀x∈r,x.2.2.1≠[])→f.length≤p.length →
  uE C n (p++r,u) (p.length:Int) f=some (.val aN (f++(eY (r,())).1,())):=by
 intro n;induction n with
 |zero=>intro r p f h;omega
 |succ n T=>
  intro r p f h hl j ha;cases r with
  |nil=>rw[yp];dsimp only;rw[QR (t:=ae)];simp[eY]
  |cons c r=>
   obtain⟨ci,R,J,P⟩:=c;cases J with
   |nil=>exact absurd rfl (j _ (S' ..))
   |cons a J=>
    have hl':p.length+(r.length+1)≤1048576:=by simpa using hl
    have next:=λg (h':g.length≤p.length+1)=>T r (p++[(ci,R,a::J,P)]) g (by simp at h;omega) Ξ (λx U=>j x (J' _ U)) (by simpa using h')
    rw[←agi (t:=ae),←QA (t:=ae) p (ci,R,a::J,P) Ω]at next
    rw[yp];dsimp only;rw[dh (t:=ae),Kg (t:=ae),YB (t:=ae),yq,yq,next _ Ξ,next _ Ω];dsimp only;rw[acB (t:=eM),QM];have l:f.length+1≤LIM:=by simp[LIM];omega
    have hq:decide ((0:Int)<((a::J).length:Int))=true:=dt Ψ;rw[hq];simp[tu,zv];cases eqD aM a.2.1 (0,false,[],0,()) <;> simp[l]
def Kd (s:Sta)(h:stG s=true):∃f,wN f s=some (.val aN (eY s)):=by obtain⟨p,j⟩:=Uz h;obtain⟨l,u⟩:=s;refine⟨l.length+1, ?_⟩;rw[Vs];exact Nr _ u (l.length+1) l [] [] Ω p (λx g=>(j x g).1) Ψ
def kL {i f j g:Int}:ahd i f j g=true↔i<j∨(i=j∧f<g):=by simp[ahd]
def agl {i f j g:Int}:ahd i f j g=false ↔ ¬(i<j∨(i=j∧f<g)):=by rw[←kL];simp
def k6 {i f j g k h:Int}(p:ahd i f j g=true)(l:ahd j g k h=true):ahd i f k h=true:=by rw[kL]at *;omega
def T0 {i f j g:Int}(h:ahd i f j g=false)(l:¬(i=j∧f=g)):ahd j g i f=true:=by rw[agl]at h;rw[kL];omega
def X8 {L:List Slt}(J:L.Pairwise jS)(id field:Int):∀m,m<L.length→ahd (L.getD m (zero ae)).1 (L.getD m (zero ae)).2.1 id field=decide (m<(L.takeWhile (λx=>ahd x.1 x.2.1 id field)).length):=by
 induction L with
 |nil=>intro m j;simp at j
 |cons x L r=>
  obtain⟨R,P⟩:=j_.1 J;intro m j;rw[List.takeWhile_cons];cases l:ahd x.1 x.2.1 id field with
  |true=>
   cases m with
   |zero=>simp[List.getD,l]
   |succ m =>have:=r P m (by simpa using j);simpa[List.getD]using this
  |false=>
   cases m with
   |zero=>simp[List.getD,l]
   |succ m=>
    have g:m<L.length:=by simpa using j
    have f:L.getD m (zero ae)∈L:=by simp only[List.getD,δ g,s?];exact e_ g
    have p:=R _ f;have e:(x::L).getD (m+1) (zero ae)=L.getD m (zero ae):=by simp[List.getD]
    rw[e];cases C:ahd (L.getD m (zero ae)).1 (L.getD m (zero ae)).2.1 id field with
    |false=>simp
    |true =>have:=k6 p C;rw[l]at this;cases this
def Qd (j:Nat)(id field:Int)(L:List Slt)(u:Unit)(hl:L.length≤1048576)(r:L.Pairwise jS):∀(n f g:Nat),g-f<n→f≤(L.takeWhile (λx=>ahd x.1 x.2.1 id field)).length→(L.takeWhile (λx=>ahd x.1 x.2.1 id field)).length≤g→g≤L.length →
  gz j n id field (L,u) (f:Int) (g:Int)=some (.val tInt ((L.takeWhile (λx=>ahd x.1 x.2.1 id field)).length:Int)):=by
 intro n;induction n with
 |zero=>intro f g h;omega
 |succ n l=>
  intro f g h U T R;rw[JN];dsimp only;by_cases P:f<g
  ·have e1:w64 ((f:Int)+(g:Int))=((f+g:Nat):Int):=by rw[zF Ω Ω];simp
   have e2:Int.tdiv ((f+g:Nat):Int) 2=(((f+g)/2:Nat):Int):=rfl;have e3:w64 (((f+g)/2:Nat):Int)=(((f+g)/2:Nat):Int):=abf Ω;rw[e1,e2,e3];generalize hm:(f+g)/2=m;have J:f≤m:=Ω
   have C:m<g:=Ω
   have e4:w64 ((m:Int)+1)=((m+1:Nat):Int):=by rw[zF Ω Ω];simp
   have e5:ix ae L (m:Int)=L.getD m (zero ae):=by simp[ix]
   rw[e4,e5,vq,X8 r id field m Ω];have c1:decide ((f:Int)<(g:Int))=true:=dt Ω;have c2:decide ((0:Int)≤(m:Int))=true:=dt Ω;have c3:decide ((m:Int)<(L.length:Int))=true:=dt Ω;rw[c1,c2,c3];simp;by_cases p:m<(L.takeWhile (λx=>ahd x.1 x.2.1 id field)).length
   ·rw[dt p,G'];exact l (m+1) g Ω Ω T R
   ·rw[df p,E_];exact l f m Ω U Ω Ω
  ·have c1:decide ((f:Int)<(g:Int))=false:=df Ω;have e:(L.takeWhile (λx=>ahd x.1 x.2.1 id field)).length=f:=Ω
   rw[c1,E_,e]
def x9 {id field:Int}(h:cg s id field=true):s.1.length≤1048576∧s.1.Pairwise jS:=by simpa[cg,adG]using h
def JM (s:Sta)(id field:Int)(h:cg s id field=true):∃f,wF f s id field=some (.val tInt (ac s id field)):=by obtain⟨j,g⟩:=x9 h;obtain⟨l,u⟩:=s;refine⟨l.length+1, ?_⟩;rw[U3];exact Qd _ id field l u j g (l.length+1) 0 l.length Ω (c_ _) (List.takeWhile_sublist _).length_le (ζ _)
def B0 (s:Sta)(id field:Int):s.1=before s id field++mE s id field:=(List.takeWhile_append_dropWhile).symm
def O9 (s:Sta)(id field:Int)(h:cg s id field=true):∃f,vk f s id field=some (.val (.slice eM) (iw s id field)):=by
 refine⟨0, ?_⟩;rw[aaV,h];have g:=B0 s id field;unfold iw ac;generalize before s id field=p at *;cases j:mE s id field with
 |nil =>rw[j]at g;rw[g];have c:decide ((p.length:Int)<((p++[]).length:Int))=false:=df Ψ;rw[c];simp[EX]
 |cons x r =>rw[j]at g;rw[g,dh (t:=ae),Kg (t:=ae),YB (t:=ae)];simp[cE];by_cases C:x.1=id <;> by_cases l:x.2.1=field <;> simp[C,l]
def ZR (p:List t.den)(c:t.den)(r:List t.den):List.drop (p.length+1) (p++c::r)=r:=by rw[←List.drop_drop];simp
def PL (s:Sta)(id field:Int)(l:List Alt)(h:abu s id field l=true):∃g,C6 g s id field l=some (.val ag (oh s id field l)):=by
 refine⟨0, ?_⟩;have hG:cg s id field=true:=h;obtain⟨h1,_⟩:=x9 hG;have f:=B0 s id field;unfold oh;have C:∀(out:List Slt) (k:Nat),out.length≤2097152→k≤s.1.length→ul 0 out s (k:Int)=some (.val ag (out++s.1.drop k,())):=by intro out k j p;rw[PN];have c1:decide ((0:Int)≤(k:Int))=true:=dt Ω;have c2:decide ((k:Int)≤(s.1.length:Int))=true:=dt Ω;have P:decide (out.length+((List.take s.1.length s.1).drop (Int.toNat (k:Int))).length≤LIM)=true:=dt (by simp[LIM];omega);rw[c1,c2,P];simp
 have R:∀out:List Slt,out.length≤2097152→xJ 0 id field s out=some (.val ag (out++Wf id field (mE s id field),())):=by
  intro out j;have p:(before s id field).length≤s.1.length:=by rw[f];simp
  rw[PO];unfold ac;cases T:mE s id field with
  |nil=>
   rw[T]at f;have c:decide (((before s id field).length:Int)<(s.1.length:Int))=false:=df (by rw[f];simp);rw[c,C out _ j p];have hd:s.1.drop (before s id field).length=[]:=by rw[f];simp
   rw[hd];simp[EX,Wf]
  |cons x r=>
   rw[T]at f;have J:(before s id field).length+1≤s.1.length:=by rw[f];simp
   have e1:ix ae s.1 ((before s id field).length:Int)=x:=by rw[f];exact dh (t:=ae) _ _ _
   have c1:decide (((before s id field).length:Int)<(s.1.length:Int))=true:=dt Ω;have c2:decide ((0:Int)≤((before s id field).length:Int))=true:=dt Ω;have e2:w64 (((before s id field).length:Int)+1)=(((before s id field).length+1:Nat):Int):=by rw[zF Ω Ω];simp
   have d1:s.1.drop (before s id field).length=x::r:=by rw[f];simp
   have d2:s.1.drop ((before s id field).length+1)=r:=by rw[f];exact ZR (t:=ae) _ _ _
   rw[e1,c1,c2,e2,C out _ j p,C out _ j J,d1,d2];simp[cE];by_cases g1:x.1=id <;> by_cases g2:x.2.1=field <;> simp[g1,g2,Wf]
 rw[abq,hG];unfold ac;have p:(before s id field).length≤s.1.length:=by rw[f];simp
 have U:(List.take (Int.toNat ((before s id field).length:Int)) s.1).drop 0=before s id field:=by simp;rw[f];simp
 have c1:decide ((0:Int)≤((before s id field).length:Int))=true:=dt Ω;have c2:decide (((before s id field).length:Int)≤(s.1.length:Int))=true:=dt Ω;have P:decide (([]:List Slt).length+(before s id field).length≤LIM)=true:=dt (by simp[LIM];omega);have c4:decide ((([]:List Slt)++before s id field).length+([(id,field,l,())]:List Slt).length≤LIM)=true:=dt (by simp[LIM];omega);rw[U,c1,c2,P,c4,R _ Ξ,R _ Ξ];cases l with
 |nil=>simp
 |cons a l =>have c5:decide (((a::l).length:Int)>0)=true:=dt Ψ;rw[c5];simp
def vH {f:Type}(p:f→Bool):∀(l:List f),∀x∈l.takeWhile p,p x=true
 |[],x,h=>by simp at h
 |y::l,x,h=>by
  rw[List.takeWhile_cons]at h;split at h
  next hy=>
   obtain rfl|h:=C'.1 h
   ·exact hy
   ·exact vH p l x h
  ·simp at h
def tE {f:Type}(p:f→Bool):∀(l:List f) (x:f) (r:List f),l.dropWhile p=x::r→p x=false
 |[],x,r,h=>by simp at h
 |y::l,x,r,h=>by
  rw[List.dropWhile_cons]at h;split at h
  ·exact tE p l x r h
  next hy=>injection h with h1 h2;subst h1;simpa using hy
def Vq (s:Sta):(eY s).1.length≤s.1.length:=by simp only[eY,o_];exact w? _ _
def La:ai prog 139 vp:=WH trivial
def YI:ai prog 97 Ej:=QN trivial  Kd
def MP:ai prog 78 x8:=Qe ⟨La,ans⟩  JM
def K6:ai prog 47 Cu:=WD ⟨MP,ans⟩  O9
def aez:ai prog 141 PP:=Xu ⟨MP,ans⟩  PL
