/- The equations of the program's functions. -/
import Derived.Test.YthfdnklcgfkjoaaGreatDoorChainW
import Derived.Test.YthfdnklcgfkjoaaGreatDoorFirG
set_option linter.all false
noncomputable section
namespace Go.Proofs.YthfdnklcgfkjoaaGreatDoor.Abs
open Go Tryz
section
def bM:TabL:={
 ty:=[(3,tInt),(4,.bool),(5,(.int .u8)),(9,.str),(22,(.slice bm)),(24,bm),(25,(.slice ae)),(27,ag),(29,(.slice tCommit)),(31,(.slice aa)),(39,(.slice tInt)),(42,tCommit),(48,aB),(56,aW),(58,aa),(64,(.slice aM)),(72,aM),(73,tInt),(90,ae),(92,(.slice (.int .u8))),(129,(.slice (.slice tInt)))],
 cells:=[(3,1),(4,1),(5,1),(9,1),(22,1),(24,4),(25,1),(27,1),(29,1),(31,1),(39,1),(42,5),(48,1),(56,4),(58,6),(64,1),(72,5),(73,1),(90,3),(92,1),(129,1)],
 offs:=[((24,0),0),((24,1),1),((24,2),2),((24,3),3),((27,0),0),((42,0),0),((42,1),1),((42,2),2),((42,3),3),((42,4),4),((48,0),0),((56,0),0),((56,1),1),((56,2),2),((56,3),3),((58,0),0),((58,1),1),((58,2),2),((72,0),0),((72,1),1),((90,0),0),((90,1),1),((90,2),2)],
 one:=[],
 elem:=[(22,24),(25,90),(29,42),(31,58),(39,3),(64,72),(92,5),(129,39)] }
def Pw:TabL:={
 ty:=[(3,tInt),(4,.bool),(5,(.int .u8)),(9,.str),(22,(.slice bm)),(24,bm),(25,(.slice ae)),(27,ag),(29,(.slice tCommit)),(31,(.slice aa)),(39,(.slice tInt)),(42,tCommit),(48,aB),(56,aW),(58,aa),(64,(.slice aM)),(72,aM),(73,tInt),(90,ae),(92,(.slice (.int .u8))),(129,(.slice (.slice tInt)))],
 cells:=[(3,1),(4,1),(5,1),(9,1),(22,1),(24,4),(25,1),(27,1),(29,1),(31,1),(39,1),(42,5),(48,1),(56,4),(58,6),(64,1),(72,5),(73,1),(90,3),(92,1),(129,1)],
 offs:=[((24,0),0),((24,1),1),((24,2),2),((24,3),3),((27,0),0),((42,0),0),((42,1),1),((42,2),2),((42,3),3),((42,4),4),((48,0),0),((56,0),0),((56,1),1),((56,2),2),((56,3),3),((58,0),0),((58,1),1),((58,2),2),((72,0),0),((72,1),1),((90,0),0),((90,1),1),((90,2),2)],
 one:=[],
 inp:=[22,25,29,31,39,64,92,129],
 elem:=[(22,24),(25,90),(29,42),(31,58),(39,3),(64,72),(92,5),(129,39)] }
def aG:TabOk prog bM.tab:=TabL.ok Φ
def Pv:TabOk prog Pw.tab:=TabL.ok Φ
variable{p:Type}
def rA (m:Bool)(K:Bool→Option p)(id:Int):Option p:=let a:Bool:=cond (id>1048576) (id<34603008) false;nq m [2,1] (id>1048576) (nm m 1 a (!(1048576:Int)=0) (nq m [2,1] a (K (cond a (!Int.tmod id 1048576=0) false))))
def cv (id:Int):Option Bool:=rA false some id
def fe:Ent:=evE (.cons tInt .unit) af (zero .bool) λx=>cv x.1
def rB:Par:=⟨bM.tab,aA [],λ_=>look [],λ_=>look []⟩
def gJ:am prog 92 (fe):=evX func92 (S:=rB) aG (ah trivial) (tys:=[.bool]) (λf x=>rA true (sm af) x.1) (λx=>by show _=Option.map af _;simp only[rA,cv,ss])
abbrev jM (p:Type):=Str→Int→Option p
def l8 (m:Bool)(K:Bool→Option p)(g:jM p):jM p:=λf i=>let b:Bool:=!ixs f i<97;let a:=bd i f.length;cond (i<il f) (ck a (nm m 2 b a (nq m [2,0] b (cond (cond (ixs f i<97) true (ixs f i>122)) (K false) (fz m tInt (w64 (i+1)) (λj=>g f j)))))) (K true)
def vA (m:Bool)(K:Bool→Option p)(g:jM p)(f:Str):Option p:=let c:Bool:=il f>60;let b:=w64 (il f-1);let a:Bool:=!cond (il f<1) true c;nq m [2,2,0] (!il f<1) (nq m [2,2] a (nm m 2 a (bd b f.length) (nq m [2,0] a (cond (cond (cond (il f<1) true c) true (ixs f b=97)) (K false) (g f 0)))))
def ou:Nat→jM Bool:=lp (λ_ _=>none) λf=>l8 false some f
def l9 (f:Str):Option Bool:=vA false some (ou FU) f
def JP:Ent:=evE (.cons .str .unit) af (zero .bool) λx=>l9 x.1
def Da:MS:=⟨0,[],[(0,.dat .str),(3,.dat tInt)]⟩
def JQ:Par:=⟨bM.tab,aA [],λ_=>look [],λ_=>look [(4,Da)]⟩
def i6:KT:=br bM.tab [.tmp 2] [.bool]
def JR:=h10 JQ f173
def ot (f n:Nat):jM AV:=λg i=>aI 0 Da (JR f 0 [1,1,0,1,0,0]) (aj 0 (aP 0 none (JR f 0 [1,1,1]) i6)) n ⟨mkE 36 [(0,.val .str g),(3,.val tInt i)],mkH 0 []⟩
def Pe (f g:Nat):ot f (g+1)=l8 true (sm af) (ot f g):=Φ
def Pf:∀n,ot FU n=mp2 af (ou n):=cA Φ λf _ h=>(Pe FU f).trans (by rw[h];funext _ _;simp only[l8,ss])
def YL:am prog 173 (JP):=evX func173 (S:=JQ) aG (ah trivial) (tys:=[.bool]) (λf x=>vA true (sm af) (ot f f) x.1) (λx=>by show _=Option.map af _;rw[Pf FU];simp only[vA,l9,ss])
def oO (m:Bool)(K:Bool→Option p)(a:aa.den)(b:aa.den):Option p:=nq m [2,2,3,1] (a.1=b.1) (K (cond (a.1=b.1) (decide (a.2.1=b.2.1)) false))
def fX (a:aa.den)(b:aa.den):Option Bool:=oO false some a b
def Dx:Ent:=evE (.cons aa (.cons aa .unit)) af (zero .bool) λx=>fX x.1 x.2.1
def Qr:am prog 215 (Dx):=evX func215 (S:=rB) aG (ah trivial) (tys:=[.bool]) (λf x=>oO true (sm af) x.1 x.2.1) (λx=>by show _=Option.map af _;simp only[oO,fX,ss])
def BR (m:Bool)(K:Bool→Option p)(a:aa.den)(b:aa.den):Option p:=cond (!a.1=b.1) (K (decide (a.1<b.1))) (K (decide (a.2.1<b.2.1)))
def jv (a:aa.den)(b:aa.den):Option Bool:=BR false some a b
def IW:Ent:=evE (.cons aa (.cons aa .unit)) af (zero .bool) λx=>jv x.1 x.2.1
def Tr:am prog 212 (IW):=evX func212 (S:=rB) aG (ah trivial) (tys:=[.bool]) (λf x=>BR true (sm af) x.1 x.2.1) (λx=>by show _=Option.map af _;simp only[BR,jv,ss])
abbrev bB:=Λ
abbrev wn (p:Type):=Λ→Int→Λ→Int→Option p
abbrev ajm (p:Type):=Λ→Int→Int→Λ→Option p
def GT (m:Bool)(K:bB→Option p)(f:wn p):ajm p:=λl id i out=>fz m tInt (w64 (i+1)) λg=>f l id out g
def GS (m:Bool)(K:bB→Option p)(f:wn p):wn p:=λl id out i=>let a:=bd i l.length;cond (i<il l) (ck a (cond ((ix aa l i).1=id) (ck a (ck (lm (List.length out+List.length ([ix aa l i]:List aa.den))) (fz m (.slice aa) (out++[ix aa l i]) (λg=>GT m K f l id i g)))) (GT m K f l id i out))) (K out)
def Xn (m:Bool)(K:bB→Option p)(f:wn p)(l:Λ)(id:Int):Option p:=f l id [] 0
def Ez:Nat→wn bB:=lp (λ_ _ _ _=>none) λf=>GS false some f
def GU (l:Λ)(id:Int):Option bB:=Xn false some (Ez FU) l id
def bG (r:bB):AV :=.val (.slice aa) r
def alo:Ent:=evE (.cons (.slice aa) (.cons tInt .unit)) bG (zero (.slice aa)) λx=>GU x.1 x.2.1
def Nz:MS:=⟨0,[],[(0,.dat (.slice aa)),(1,.dat tInt),(5,.own aa 58),(6,.dat tInt)]⟩
def alp:Par:=⟨bM.tab,aA [],λ_=>look [(4,Nz)],λ_=>look [(3,Nz)]⟩
def adB:KT:=br bM.tab [.tmp 4] [(.slice aa)]
def alq:=h10 alp f47
def Ey (f n:Nat):wn AV:=λl id out i=>aI 0 Nz (alq f 0 [1,1,0,1,0,0]) (aj 0 (aP 0 none (alq f 0 [1,1,1]) adB)) n ⟨mkE 28 [(0,.val (.slice aa) l),(1,.val tInt id),(5,.own 0 0 aa out),(6,.val tInt i)],mkH 1 [(0,.row aa 58 0)]⟩
def ajn (f g:Nat):Ey f (g+1)=GS true (sm bG) (Ey f g):=Φ
def ajo:∀n,Ey FU n=mp4 bG (Ez n):=cA Φ λf _ h=>(ajn FU f).trans (by rw[h];funext _ _ _ _;simp only[GS,GT,ss])
def aor:am prog 47 (alo):=evX func47 (S:=alp) aG (ah trivial) (tys:=[(.slice aa)]) (λf x=>Xn true (sm bG) (Ey f f) x.1 x.2.1) (λx=>by show _=Option.map bG _;rw[ajo FU];simp only[Xn,GU,GT,ss])
abbrev bz (p:Type):=Λ→Int→Option p
def ak7 (g:aa.den)(f:aa.den):Bool:=(jv g f).isSome
def ak8 (g:aa.den)(f:aa.den):Bool:=(jv g f).getD (zero .bool)
def lX (m:Bool)(K:Bool→Option p)(j:bz p):bz p:=λl i=>let g:=w64 (i-1);let h:=ix aa l g;let e:=bd i l.length;let c:=ix aa l i;cond (i<il l) (ck e (cl m .bool (cv c.1) (λr1=>let f:Bool:=!cond (!r1) true (c.2.1<1);let b:Bool:=cond (!r1) true (c.2.1<1);let d:Bool:=!cond b true (c.2.1≥48);let a:Bool:=!cond b true (c.2.1≥48)&&i>0;nm m 2 (!!r1) e (nq m [2,2,2,0] (!!r1) (nm m 2 f e (nq m [2,2,2,0] f (nq m [2,2] d (nq m [2] a (nm m 2 a (bd g l.length) (nq m [2] a (nm m 2 a e (nq m [2] a (nm m 2 a (ak7 h c) (nq m [2] a (nm m 0 d (ii a&&true) (nq m [0] d (cond (cond (cond b true (c.2.1≥48)) true (cond (i>0) (!ak8 h c) false)) (K false) (fz m tInt (w64 (i+1)) (λr=>j l r))))))))))))))))))) (K true)
def vp (m:Bool)(K:Bool→Option p)(f:bz p)(l:Λ):Option p:=f l 0
def nY:Nat→bz Bool:=lp (λ_ _=>none) λf=>lX false some f
def lY (l:Λ):Option Bool:=vp false some (nY FU) l
def JF:Ent:=evE (.cons (.slice aa) .unit) af (zero .bool) λx=>lY x.1
def gV:MS:=⟨0,[],[(0,.dat (.slice aa)),(3,.dat tInt)]⟩
def JG:Par:=⟨bM.tab,aA [(92,fe),(212,IW)],λ_=>look [],λ_=>look [(2,gV)]⟩
def JH:=h10 JG f172
def nX (f n:Nat):bz AV:=λl i=>aI 0 gV (JH f 0 [1,0,1,0,0]) (aj 0 (aP 0 none (JH f 0 [1,1]) i6)) n ⟨mkE 50 [(0,.val (.slice aa) l),(3,.val tInt i)],mkH 0 []⟩
def OV (f g:Nat):nX f (g+1)=lX true (sm af) (nX f g):=Φ
def OW:∀n,nX FU n=mp2 af (nY n):=cA Φ λf _ h=>(OV FU f).trans (by rw[h];funext _ _;simp only[lX,ss])
def YE:am prog 172 (JF):=evX func172 (S:=JG) aG (ah ⟨gJ,Tr,awN⟩) (tys:=[.bool]) (λf x=>vp true (sm af) (nX f f) x.1) (λx=>by show _=Option.map af _;rw[OW FU];simp only[vp,lY,ss])
def l6 (m:Bool)(K:Bool→Option p)(f:bz p):bz p:=λl i=>cond (i<il l) (ck (bd i l.length) (cond (eqD aW (ix aa l i).2.2.1 (0,false,[],0,())) (K false) (fz m tInt (w64 (i+1)) (λg=>f l g)))) (cl m .bool (lY l) (λr1=>K r1))
def vz (m:Bool)(K:Bool→Option p)(f:bz p)(l:Λ):Option p:=f l 0
def oq:Nat→bz Bool:=lp (λ_ _=>none) λf=>l6 false some f
def l7 (l:Λ):Option Bool:=vz false some (oq FU) l
def JM:Ent:=evE (.cons (.slice aa) .unit) af (zero .bool) λx=>l7 x.1
def JN:Par:=⟨bM.tab,aA [(172,JF)],λ_=>look [],λ_=>look [(2,gV)]⟩
def JO:=h10 JN f133
def oo (f n:Nat):bz AV:=λl i=>aI 0 gV (JO f 0 [1,0,1,0,0]) (aj 0 (aP 0 none (JO f 0 [1,1]) i6)) n ⟨mkE 19 [(0,.val (.slice aa) l),(3,.val tInt i)],mkH 0 []⟩
def Pb (f g:Nat):oo f (g+1)=l6 true (sm af) (oo f g):=Φ
def Pc:∀n,oo FU n=mp2 af (oq n):=cA Φ λf _ h=>(Pb FU f).trans (by rw[h];funext _ _;simp only[l6,ss])
def YK:am prog 133 (JM):=evX func133 (S:=JN) aG (ah ⟨YE,awN⟩) (tys:=[.bool]) (λf x=>vz true (sm af) (oo f f) x.1) (λx=>by show _=Option.map af _;rw[Pc FU];simp only[vz,l7,ss])
abbrev l5 (p:Type):=aB.den→Int→Int→Int→Int→Option p
def Ga (g:aa.den)(f:aa.den):Bool:=(fX g f).isSome
def Us (g:aa.den)(f:aa.den):Bool:=(fX g f).getD (zero .bool)
def pW (m:Bool)(K:aW.den→Option p)(j:l5 p):l5 p:=λf id field g C=>let c:=bd g f.1.length;let b:=ix aa f.1 g;let a:=Int.tdiv (w64 (g+C)) 2;let d:=w64 a;cond (g<C) (ck (!(2:Int)=0) (ck (bd d f.1.length) (cl m .bool (jv (ix aa f.1 d) (id,field,(0,false,[],0,()),())) (λr1=>cond r1 (fz m tInt (w64 (w64 a+1)) (λr=>j f id field r C)) (fz m tInt d (λl=>j f id field g l)))))) (nq m [2] (g<il f.1) (nm m 2 (g<il f.1) c (nq m [2] (g<il f.1) (nm m 2 (g<il f.1) (Ga b (id,field,(0,false,[],0,()),())) (nq m [1] (g<il f.1) (cond (cond (g<il f.1) (Us b (id,field,(0,false,[],0,()),())) false) (ck c (K b.2.2.1)) (K (0,false,[],0,()))))))))
def za (m:Bool)(K:aW.den→Option p)(f:l5 p)(j:aB.den)(id:Int)(field:Int):Option p:=fz m tInt (il j.1) λg=>f j id field 0 g
def rz:Nat→l5 aW.den:=lp (λ_ _ _ _ _=>none) λf=>pW false some f
def vw (f:aB.den)(id:Int)(field:Int):Option aW.den:=za false some (rz FU) f id field
def dn (r:aW.den):AV :=.val aW r
def O7:Ent:=evE (.cons aB (.cons tInt (.cons tInt .unit))) dn (zero aW) λx=>vw x.1 x.2.1 x.2.2.1
def Fj:MS:=⟨6,[(0,[.dat (.slice aa)]),(1,[.dat tInt,.dat .bool,.dat .str,.dat tInt]),(5,[.dat tInt,.dat tInt,.dat tInt,.dat .bool,.dat .str,.dat tInt])],[(3,.keep),(6,.keep),(7,.keep),(8,.dat tInt),(9,.dat tInt)]⟩
def O8:Par:=⟨bM.tab,aA [(212,IW),(215,Dx)],λ_=>look [],λ_=>look [(3,Fj)]⟩
def abR:KT:=br bM.tab [.cell 6 56] [aW]
def O9:=h10 O8 f177
def ry (f n:Nat):l5 AV:=λg id field j l=>aI 0 Fj (O9 f 0 [1,1,1,0,0,0]) (aj 0 (aP 0 none (O9 f 0 [1,1,1,1]) abR)) n ⟨mkE 55 [(3,.box 0 0),(6,.box 1 0),(7,.box 5 0),(8,.val tInt j),(9,.val tInt l)],mkH 6 [(0,.box [.val (.slice aa) g.1]),(1,.box [.val tInt (0:Int),.val .bool false,.val .str [],.val tInt (0:Int)]),(5,.box [.val tInt id,.val tInt field,.val tInt (0:Int),.val .bool false,.val .str [],.val tInt (0:Int)])]⟩
def TE (f g:Nat):ry f (g+1)=pW true (sm dn) (ry f g):=Φ
def TF:∀n,ry FU n=mp5 dn (rz n):=cA Φ λf _ h=>(TE FU f).trans (by rw[h];funext _ _ _ _ _;simp only[pW,ss])
def abQ:am prog 177 (O7):=evX func177 (S:=O8) aG (ah ⟨Tr,Qr,awN⟩) (tys:=[aW]) (λf x=>za true (sm dn) (ry f f) x.1 x.2.1 x.2.2.1) (λx=>by show _=Option.map dn _;rw[TF FU];simp only[za,vw,ss])
def NZ (m:Bool)(K:aW.den→Option p)(f:aB.den)(id:Int)(field:Int):Option p:=cl m aW (vw f id field) λr1=>K r1
def Be (f:aB.den)(id:Int)(field:Int):Option aW.den:=NZ false some f id field
def aej:Ent:=evE (.cons aB (.cons tInt (.cons tInt .unit))) dn (zero aW) λx=>Be x.1 x.2.1 x.2.2.1
def am3:Par:=⟨bM.tab,aA [(177,O7)],λ_=>look [],λ_=>look []⟩
def am2:am prog 135 (aej):=evX func135 (S:=am3) aG (ah ⟨abQ,awN⟩) (tys:=[aW]) (λf x=>NZ true (sm dn) x.1 x.2.1 x.2.2.1) (λx=>by show _=Option.map dn _;simp only[NZ,Be,ss])
abbrev lM (p:Type):=aB.den→(List Int)→Int→Option p
abbrev aaI (p:Type):=Int→aB.den→(List Int)→Option p
def uJ (m:Bool)(K:(List Int)→Option p)(f:lM p):aaI p:=λi j l=>fz m tInt (w64 (i+1)) λg=>f j l g
def uI (m:Bool)(K:(List Int)→Option p)(f:lM p):lM p:=λg l i=>let d:=w64 (i-1);let c:=bd i g.1.length;let b:Bool:=!i=0;let a:=ix aa g.1 i;cond (i<il g.1) (nq m [2] b (nm m 2 b c (nq m [2,2,2,2] b (nm m 2 b (bd d g.1.length) (nq m [2,2,3,0] b (cond (cond (i=0) true (! a.1=(ix aa g.1 d).1)) (ck c (ck (lm (List.length l+List.length ([a.1]:List Int))) (fz m (.slice tInt) (l++[a.1]) (λj=>uJ m K f i g j)))) (uJ m K f i g l))))))) (K l)
def EK (m:Bool)(K:(List Int)→Option p)(f:lM p)(g:aB.den):Option p:=f g [] 0
def wO:Nat→lM (List Int):=lp (λ_ _ _=>none) λf=>uI false some f
def uK (f:aB.den):Option (List Int):=EK false some (wO FU) f
def aS (r:(List Int)):AV :=.val (.slice tInt) r
def XV:Ent:=evE (.cons aB .unit) aS (zero (.slice tInt)) λx=>uK x.1
def Cw:MS:=⟨1,[(0,[.dat (.slice aa)])],[(1,.keep),(3,.own tInt 3),(4,.dat tInt)]⟩
def XW:Par:=⟨bM.tab,aA [],λ_=>look [(4,Cw)],λ_=>look [(3,Cw)]⟩
def NQ:KT:=br bM.tab [.tmp 2] [(.slice tInt)]
def XX:=h10 XW f93
def wN (f n:Nat):lM AV:=λg l i=>aI 0 Cw (XX f 0 [1,1,0,1,0,0]) (aj 0 (aP 0 none (XX f 0 [1,1,1]) NQ)) n ⟨mkE 40 [(1,.box 0 0),(3,.own 1 0 tInt l),(4,.val tInt i)],mkH 2 [(0,.box [.val (.slice aa) g.1]),(1,.row tInt 3 0)]⟩
def aaJ (f g:Nat):wN f (g+1)=uI true (sm aS) (wN f g):=Φ
def aaK:∀n,wN FU n=mp3 aS (wO n):=cA Φ λf _ h=>(aaJ FU f).trans (by rw[h];funext _ _ _;simp only[uI,uJ,ss])
def ajT:am prog 93 (XV):=evX func93 (S:=XW) aG (ah trivial) (tys:=[(.slice tInt)]) (λf x=>EK true (sm aS) (wN f f) x.1) (λx=>by show _=Option.map aS _;rw[aaK FU];simp only[EK,uK,uJ,ss])
def pX (f:Int):Bool:=(cv f).isSome
def BV (f:Int):Bool:=(cv f).getD (zero .bool)
def rM (m:Bool)(K:Bool→Option p)(v:aW.den):Option p:=let j:=decide (v.1<5);let i:=K false;let h:=decide (v.1=12);let f:Bool:=!decide (v.1=16);let e:=bif h then true else(decide (v.1=16));let d:=decide (v.2.2.2.1=0);let c:Bool:=!decide (v.2.2.2.1=0);let b:=bif e then true else(decide (v.1=9));let g:=bif c then(! b)else false;let a:=bif j then true else(decide (v.1>22));(nq m [2,2,0] (! j) (nq m [2,2,2] (! a) (nq m [2] ((! a)&&c) (nm m 1 ((! a)&&c) (pX (v.2.2.2.1)) (nq m [2] ((! a)&&c) (nm m 0 (! a) ((ii ((! a)&&c))&&true) (nq m [0] (! a) (bif (bif a then true else(bif c then(!(BV (v.2.2.2.1)))else false))then i else(nq m [2,2,0] (! h) (nq m [2,2,0] (! e) (nq m [2,1] c (nq m [2,2,1] g (bif (bif g then(!decide (v.1=17))else false)then i else(nq m [2,2,2] (v.2.1) (nq m [2,2,2] (v.2.1&&(! d)) (nq m [2,2] ((v.2.1&&(! d))&&f) (nm m 0 (v.2.1&&(! d)) ((ii ((v.2.1&&(! d))&&f))&&true) (nm m 0 (v.2.1) (ii (v.2.1&&(! d))) (nq m [1] (v.2.1) (bif (bif v.2.1 then(bif d then true else(bif f then(!decide (v.1=9))else false))else false)then i else(nq m [2,2,1] b (bif (bif b then c else false)then(K (decide (v.2.2.1=[])))else(cl m .bool (iA (v.1) (v.2.2.1)) λr1=>(K r1))))))))))))))))))))))))
def jV (v:aW.den):Option Bool:=rM false some v
def FP:Ent:=evE (.cons aW .unit) af (zero .bool) λx=>jV x.1
def Ua:Par:=⟨bM.tab,aA [(92,fe),(214,Df)],λ_=>look [],λ_=>look []⟩
def T9:am prog 175 (FP):=evX func175 (S:=Ua) aG (ah ⟨gJ,Pt,awN⟩) (tys:=[.bool]) (λf x=>rM true (sm af) x.1) (λx=>by show _=Option.map af _;simp only[rM,jV,ss])
def ab0 (g:Str)(f:Bool):Bool:=(i7 g f).isSome
def ab1 (g:Str)(f:Bool):Bool:=(i7 g f).getD (zero .bool)
def wT (m:Bool)(K:Bool→Option p)(g:Int)(field:Int)(v:aW.den):Option p:=let f:=K false;let e:=cond (v.1<0) true (v.1>3);let d:Bool:=cond (g=1) (decide (field=10)) false;let c:Bool:=eqD aW v (0,false,v.2.2.1,0,())&&g=1;let b:Bool:=!cond e true v.2.1;let a:=eqD aW v (0,false,v.2.2.1,0,());cond (eqD aW v (0,false,[],0,())) (K true) (nq m [2,0] (!g<1) (cond (cond (g<1) true (g>5)) f (cond (field=1) (K (eqD aW v (g,false,[],0,()))) (nq m [2,1] (field=2) (cond (cond (field=2) (g=1) false) (K (eqD aW v (1,false,[],0,()))) (cond (field=2) (nq m [2,2,0] (!v.1<0) (nq m [2,0] (!cond (v.1<0) true (v.1>3)) (nq m [2] b (nm m 1 b (pX v.2.2.2.1) (nq m [2,0] b (cond (cond (cond e true v.2.1) true (!BV v.2.2.2.1)) f (cond (v.1=0) (cl m .bool (l9 v.2.2.1) (λr1=>K r1)) (K (decide (v.2.2.1=[])))))))))) (nq m [2,1] (field=3) (cond (cond (field=3) (!g=5) false) (cl m tInt (lT v.2.2.1) (λr2=>cond (!eqD aW v (0,false,v.2.2.1,0,())) f (nq m [2,0] (!g=1) (cond (cond (g=1) true (g=3)) (K (decide (r2=2))) (K (decide (r2=1))))))) (nq m [2,1] (field=4) (cond (cond (field=4) (g=5) false) (cl m .bool (jV v) (λr3=>K r3)) (nq m [2,1] (field≥8) (cond (cond (field≥8) (field<48) false) (nq m [2,2,2] a (nq m [2] c (nm m 0 a (ii c&&true) (nm m 2 a (ab0 v.2.2.1 d) (nq m [1] a (K (cond a (ab1 v.2.2.1 d) false))))))) f))))))))))))
def jn (kind:Int)(field:Int)(v:aW.den):Option Bool:=wT false some kind field v
def CC:Ent:=evE (.cons tInt (.cons tInt (.cons aW .unit))) af (zero .bool) λx=>jn x.1 x.2.1 x.2.2.1
def aaR:Par:=⟨bM.tab,aA [(92,fe),(173,JP),(174,IB),(175,FP),(176,JW)],λ_=>look [],λ_=>look []⟩
def Lm:am prog 134 (CC):=evX func134 (S:=aaR) aG (ah ⟨gJ,YL,S5,T9,YR,awN⟩) (tys:=[.bool]) (λf x=>wT true (sm af) x.1 x.2.1 x.2.2.1) (λx=>by show _=Option.map af _;simp only[wT,jn,ss])
abbrev gM (p:Type):=aB.den→Int→Bool→Bool→Int→Option p
abbrev Dq (p:Type):=aB.den→Int→Int→Bool→Bool→Option p
def qh (m:Bool)(K:Bool→Option p)(j:gM p):Dq p:=λr i g named f=>fz m tInt (w64 (i+1)) λl=>j r g named f l
def jc (m:Bool)(K:Bool→Option p)(C:gM p):Dq p:=λR i l named r=>let k:=w64 (i+1);let j:=il R.1-1;let d:=bd i R.1.length;let c:Bool:=!i=w64 j;let b:=ix aa R.1 i;let g:=cond named true (decide (b.2.1=3));let f:=cond r true (decide (b.2.1=4));let a:Bool:=!cond r true (b.2.1=4);let h:Bool:=!cond (l=5) a false&&!l=5;let e:Bool:=!cond (l=5) a false;ck d (ck d (cl m .bool (jn l b.2.1 b.2.2.1) (λr2=>cond (!r2) (K false) (nm m 2 (!named) d (nq m [2,2,2,0] (!named) (nm m 2 (!r) d (nq m [2,2,2,0] (!r) (nq m [2] c (nm m 2 c (bd k R.1.length) (nq m [2,2] c (nm m 2 c d (nq m [2,2,3,0] c (cond (cond (i=w64 j) true (!(ix aa R.1 k).1=b.1)) (nq m [2,1] (l=5) (nq m [2,2] e (nq m [2] h (nm m 0 e (ii h&&true) (nq m [0] e (cond (cond (cond (l=5) a false) true (cond (!l=5) (!cond named true (b.2.1=3)) false)) (K false) (fz m .bool g (λP=>fz m .bool f λJ=>qh m K C R i l P J)))))))) (fz m .bool g (λP=>fz m .bool f λJ=>qh m K C R i l P J)))))))))))))))
def qg (m:Bool)(K:Bool→Option p)(g:gM p):gM p:=λj l named f i=>let d:=w64 (i-1);let c:Bool:=!i=0;let b:=ix aa j.1 i;let a:=bd i j.1.length;cond (i<il j.1) (nm m 2 c a (nq m [2,2,2] c (nm m 2 c (bd d j.1.length) (nq m [2,2,3,0] c (cond (cond (i=0) true (! b.1=(ix aa j.1 d).1)) (ck a (cond (! b.2.1=1) (K false) (ck a (fz m tInt b.2.2.1.1 (λr=>jc m K g j i r false false))))) (jc m K g j i l named f)))))) (K true)
def zA (m:Bool)(K:Bool→Option p)(f:gM p)(g:aB.den):Option p:=cl m .bool (l7 g.1) λr1=>cond (!r1) (K false) (f g 0 false false 0)
def mq:Nat→gM Bool:=lp (λ_ _ _ _ _=>none) λf=>qg false some f
def qi (f:aB.den):Option Bool:=zA false some (mq FU) f
def PO:Ent:=evE (.cons aB .unit) af (zero .bool) λx=>qi x.1
def rF:MS:=⟨0,[],[(3,.dat (.slice aa)),(4,.dat tInt),(5,.dat .bool),(6,.dat .bool),(7,.dat tInt)]⟩
def PP:Par:=⟨bM.tab,aA [(133,JM),(134,CC)],λ_=>look [(12,rF),(7,rF)],λ_=>look [(6,rF)]⟩
def PQ:=h10 PP f91
def rG (g n:Nat):gM AV:=λl j named f i=>aI 0 rF (PQ g 0 [1,1,1,1,0,1,0,0]) (aj 0 (aP 0 none (PQ g 0 [1,1,1,1,1]) i6)) n ⟨mkE 111 [(3,.val (.slice aa) l.1),(4,.val tInt j),(5,.val .bool named),(6,.val .bool f),(7,.val tInt i)],mkH 0 []⟩
def T0 (f g:Nat):rG f (g+1)=qg true (sm af) (rG f g):=Φ
def T1:∀n,rG FU n=mp5 af (mq n):=cA Φ λf _ h=>(T0 FU f).trans (by rw[h];funext _ _ _ _ _;simp only[qg,jc,qh,ss])
def acA:am prog 91 (PO):=evX func91 (S:=PP) aG (ah ⟨YK,Lm,awN⟩) (tys:=[.bool]) (λf x=>zA true (sm af) (rG f f) x.1) (λx=>by show _=Option.map af _;rw[T1 FU];simp only[zA,qi,jc,qh,ss])
abbrev iM (p:Type):=Int→Int→aB.den→Int→Int→Option p
def kg (m:Bool)(K:Bool→Option p)(g:iM p):iM p:=λl f r id i=>cond (i<f) (cl m aW (Be r id 2) (λr1=>cond (r1.2.2.2.1=l) (K true) (cond (r1.2.2.2.1=0) (K false) (fz m tInt (w64 (i+1)) (λj=>g l f r r1.2.2.2.1 j))))) (K false)
def rW (m:Bool)(K:Bool→Option p)(g:iM p)(l:aB.den)(id:Int)(j:Int)(f:Int):Option p:=g j f l id 0
def ld:Nat→iM Bool:=lp (λ_ _ _ _ _=>none) λf=>kg false some f
def g7 (j:aB.den)(id:Int)(g:Int)(f:Int):Option Bool:=rW false some (ld FU) j id g f
def Gk:Ent:=evE (.cons aB (.cons tInt (.cons tInt (.cons tInt .unit)))) af (zero .bool) λx=>g7 x.1 x.2.1 x.2.2.1 x.2.2.2.1
def zV:MS:=⟨1,[(0,[.dat (.slice aa)])],[(1,.dat tInt),(2,.dat tInt),(3,.dat tInt),(4,.keep),(9,.dat tInt)]⟩
def Gm:Par:=⟨bM.tab,aA [(135,aej)],λ_=>look [],λ_=>look [(2,zV)]⟩
def UC:KT:=br bM.tab [.tmp 8] [.bool]
def Gn:=h10 Gm f94
def la (f n:Nat):iM AV:=λj g l id i=>aI 0 zV (Gn f 0 [1,0,1,0,0]) (aj 0 (aP 0 none (Gn f 0 [1,1]) UC)) n ⟨mkE 24 [(1,.val tInt id),(2,.val tInt j),(3,.val tInt g),(4,.box 0 0),(9,.val tInt i)],mkH 1 [(0,.box [.val (.slice aa) l.1])]⟩
def M3 (f g:Nat):la f (g+1)=kg true (sm af) (la f g):=Φ
def M4:∀n,la FU n=mp5 af (ld n):=cA Φ λf _ h=>(M3 FU f).trans (by rw[h];funext _ _ _ _ _;simp only[kg,ss])
def UB:am prog 94 (Gk):=evX func94 (S:=Gm) aG (ah ⟨am2,awN⟩) (tys:=[.bool]) (λf x=>rW true (sm af) (la f f) x.1 x.2.1 x.2.2.1 x.2.2.2.1) (λx=>by show _=Option.map af _;rw[M4 FU];simp only[rW,g7,ss])
abbrev io (p:Type):=Int→(List Int)→aB.den→(List Int)→Int→Option p
abbrev Te (p:Type):=Int→(List Int)→Int→aB.den→(List Int)→Option p
def nJ (m:Bool)(K:(List Int)→Option p)(f:io p):Te p:=λid r2 i j out=>fz m tInt (w64 (i+1)) λg=>f id r2 j out g
def Kz (l:aB.den)(j:Int)(g:Int)(f:Int):Bool:=(g7 l j g f).isSome
def ZC (l:aB.den)(j:Int)(g:Int)(f:Int):Bool:=(g7 l j g f).getD (zero .bool)
def nH (m:Bool)(K:(List Int)→Option p)(f:io p):io p:=λid r2 g out i=>let d:=ix tInt r2 i;let c:=w64 (il r2+1);let b:=bd i r2.length;let a:Bool:=!ix tInt r2 i=id;cond (i<il r2) (ck b (nm m 2 a b (nq m [2,2,2] a (ck (ii a&&(ii a&&(ii a&&(ii a&&true)))&&az a (Kz g d id c)) (nq m [1] a (cond (cond a (ZC g d id c) false) (ck b (ck (lm (List.length out+List.length ([ix tInt r2 i]:List Int))) (fz m (.slice tInt) (out++[ix tInt r2 i]) (λj=>nJ m K f id r2 i g j)))) (nJ m K f id r2 i g out))))))) (K out)
def xd (m:Bool)(K:(List Int)→Option p)(f:io p)(g:aB.den)(id:Int):Option p:=cl m .bool (qi g) λr1=>nm m 1 (!!r1) (pX id) (nq m [2,0] (!!r1) (cond (cond (!r1) true (!BV id)) (K []) (cl m (.slice tInt) (uK g) (λr2=>f id r2 g [] 0))))
def pf:Nat→io (List Int):=lp (λ_ _ _ _ _=>none) λf=>nH false some f
def nK (f:aB.den)(id:Int):Option (List Int):=xd false some (pf FU) f id
def LU:Ent:=evE (.cons aB (.cons tInt .unit)) aS (zero (.slice tInt)) λx=>nK x.1 x.2.1
def vc:MS:=⟨1,[(0,[.dat (.slice aa)])],[(1,.dat tInt),(2,.keep),(5,.own tInt 3),(6,.dat (.slice tInt)),(7,.dat tInt)]⟩
def LV:Par:=⟨bM.tab,aA [(91,PO),(92,fe),(93,XV),(94,Gk)],λ_=>look [(7,vc)],λ_=>look [(6,vc)]⟩
def xf:KT:=br bM.tab [.tmp 4] [(.slice tInt)]
def LW:=h10 LV f46
def pe (f n:Nat):io AV:=λid r2 g out i=>aI 0 vc (LW f 0 [1,1,1,1,0,1,0,0]) (aj 0 (aP 0 none (LW f 0 [1,1,1,1,1]) xf)) n ⟨mkE 50 [(1,.val tInt id),(2,.box 0 0),(5,.own 1 0 tInt out),(6,.val (.slice tInt) r2),(7,.val tInt i)],mkH 2 [(0,.box [.val (.slice aa) g.1]),(1,.row tInt 3 0)]⟩
def Tf (f g:Nat):pe f (g+1)=nH true (sm aS) (pe f g):=Φ
def Tg:∀n,pe FU n=mp5 aS (pf n):=cA Φ λf _ h=>(Tf FU f).trans (by rw[h];funext _ _ _ _ _;simp only[nH,nJ,ss])
def abv:am prog 46 (LU):=evX func46 (S:=LV) aG (ah ⟨acA,gJ,ajT,UB,awN⟩) (tys:=[(.slice tInt)]) (λf x=>xd true (sm aS) (pe f f) x.1 x.2.1) (λx=>by show _=Option.map aS _;rw[Tg FU];simp only[xd,nK,nJ,ss])
abbrev gw (p:Type):=(List Int)→Int→Int→Option p
def Bb (m:Bool)(K:Bool→Option p)(f:gw p):gw p:=λl x i=>cond (i<il l) (ck (bd i l.length) (cond (ix tInt l i=x) (K true) (fz m tInt (w64 (i+1)) (λg=>f l x g)))) (K false)
def NV (m:Bool)(K:Bool→Option p)(f:gw p)(l:(List Int))(x:Int):Option p:=f l x 0
def Ba:Nat→gw Bool:=lp (λ_ _ _=>none) λf=>Bb false some f
def sD (l:(List Int))(x:Int):Option Bool:=NV false some (Ba FU) l x
def Cx:Ent:=evE (.cons (.slice tInt) (.cons tInt .unit)) af (zero .bool) λx=>sD x.1 x.2.1
def HN:MS:=⟨0,[],[(0,.dat (.slice tInt)),(1,.dat tInt),(5,.dat tInt)]⟩
def NX:Par:=⟨bM.tab,aA [],λ_=>look [],λ_=>look [(2,HN)]⟩
def am0:KT:=br bM.tab [.tmp 4] [.bool]
def aeh:=h10 NX f72
def AZ (f n:Nat):gw AV:=λl x i=>aI 0 HN (aeh f 0 [1,0,1,0,0]) (aj 0 (aP 0 none (aeh f 0 [1,1]) am0)) n ⟨mkE 18 [(0,.val (.slice tInt) l),(1,.val tInt x),(5,.val tInt i)],mkH 0 []⟩
def aef (f g:Nat):AZ f (g+1)=Bb true (sm af) (AZ f g):=Φ
def aeg:∀n,AZ FU n=mp3 af (Ba n):=cA Φ λf _ h=>(aef FU f).trans (by rw[h];funext _ _ _;simp only[Bb,ss])
def HL:am prog 72 (Cx):=evX func72 (S:=NX) aG (ah trivial) (tys:=[.bool]) (λf x=>NV true (sm af) (AZ f f) x.1 x.2.1) (λx=>by show _=Option.map af _;rw[aeg FU];simp only[NV,sD,ss])
def zZ (m:Bool)(K:(List Int)→Option p)(g:gw p):gw p:=λl x f=>let d:=Int.toNat f;let c:=List.take (List.length l) l;let b:=w64 (f-1);let e:=bd b l.length;let a:=List.take d l;nq m [2] (f>0) (nm m 2 (f>0) e (nq m [2,3,1] (f>0) (cond (cond (f>0) (ix tInt l b≥x) false) (ck e (cond (ix tInt l b=x) (K l) (fz m tInt b (λj=>g l x j)))) (ck (0≤f&&f≤(l.length:Int)) (ck (lm (List.length ([]:List Int)+List.length (a.drop 0))) (ck (lm (List.length ([]++a.drop 0)+List.length ([x]:List Int))) (ck (0≤f&&f≤(l.length:Int)) (ck (lm (List.length ([]++a.drop 0++[x])+List.length (c.drop d))) (K ([]++a.drop 0++[x]++c.drop d))))))))))
def M5 (m:Bool)(K:(List Int)→Option p)(f:gw p)(l:(List Int))(x:Int):Option p:=fz m tInt (il l) λg=>f l x g
def zY:Nat→gw (List Int):=lp (λ_ _ _=>none) λf=>zZ false some f
def wg (l:(List Int))(x:Int):Option (List Int):=M5 false some (zY FU) l x
def UD:Ent:=evE (.cons (.slice tInt) (.cons tInt .unit)) aS (zero (.slice tInt)) λx=>wg x.1 x.2.1
def adc:=h10 NX f75
def zX (f n:Nat):gw AV:=λl x g=>aI 0 HN (adc f 0 [1,1,0,0,0]) (aj 0 (aP 0 none (adc f 0 [1,1,1]) xf)) n ⟨mkE 44 [(0,.val (.slice tInt) l),(1,.val tInt x),(5,.val tInt g)],mkH 0 []⟩
def ada (f g:Nat):zX f (g+1)=zZ true (sm aS) (zX f g):=Φ
def adb:∀n,zX FU n=mp3 aS (zY n):=cA Φ λf _ h=>(ada FU f).trans (by rw[h];funext _ _ _;simp only[zZ,ss])
def ac9:am prog 75 (UD):=evX func75 (S:=NX) aG (ah trivial) (tys:=[(.slice tInt)]) (λf x=>M5 true (sm aS) (zX f f) x.1 x.2.1) (λx=>by show _=Option.map aS _;rw[adb FU];simp only[M5,wg,ss])
abbrev na (p:Type):=(List Int)→Int→Option p
def qO (m:Bool)(K:Bool→Option p)(f:na p):na p:=λl i=>let d:=w64 (i-1);let b:=bd i l.length;cond (i<il l) (ck b (cl m .bool (cv (ix tInt l i)) (λr1=>let c:Bool:=!!r1;let a:Bool:=!!r1&&i>0;nq m [2,2] c (nm m 2 a b (nq m [2,2] a (nm m 2 a (bd d l.length) (nq m [2,3] a (nm m 0 c (ii a&&true) (nq m [0] c (cond (cond (!r1) true (cond (i>0) (ix tInt l i≤ix tInt l d) false)) (K false) (fz m tInt (w64 (i+1)) (λg=>f l g)))))))))))) (K true)
def AT (m:Bool)(K:Bool→Option p)(f:na p)(l:(List Int)):Option p:=f l 0
def su:Nat→na Bool:=lp (λ_ _=>none) λf=>qO false some f
def lN (l:(List Int)):Option Bool:=AT false some (su FU) l
def RI:Ent:=evE (.cons (.slice tInt) .unit) af (zero .bool) λx=>lN x.1
def HH:MS:=⟨0,[],[(0,.dat (.slice tInt)),(3,.dat tInt)]⟩
def RJ:Par:=⟨bM.tab,aA [(92,fe)],λ_=>look [],λ_=>look [(2,HH)]⟩
def RK:=h10 RJ f129
def sr (f n:Nat):na AV:=λl i=>aI 0 HH (RK f 0 [1,0,1,0,0]) (aj 0 (aP 0 none (RK f 0 [1,1]) i6)) n ⟨mkE 32 [(0,.val (.slice tInt) l),(3,.val tInt i)],mkH 0 []⟩
def Vs (f g:Nat):sr f (g+1)=qO true (sm af) (sr f g):=Φ
def Vt:∀n,sr FU n=mp2 af (su n):=cA Φ λf _ h=>(Vs FU f).trans (by rw[h];funext _ _;simp only[qO,ss])
def aeb:am prog 129 (RI):=evX func129 (S:=RJ) aG (ah ⟨gJ,awN⟩) (tys:=[.bool]) (λf x=>AT true (sm af) (sr f f) x.1) (λx=>by show _=Option.map af _;rw[Vt FU];simp only[AT,lN,ss])
abbrev kh (p:Type):=tCommit.den→Int→Option p
def mQ (m:Bool)(K:Bool→Option p)(f:kh p):kh p:=λc i=>let b:=bd i c.2.2.2.1.length;let a:Bool:=!ixs c.2.2.2.1 i<32;cond (i<il c.2.2.2.1) (ck b (nq m [2] a (nm m 2 a b (nq m [2,0] a (cond (cond (ixs c.2.2.2.1 i<32) true (ixs c.2.2.2.1 i>126)) (K false) (fz m tInt (w64 (i+1)) (λg=>f c g))))))) (K true)
def XY (f:(List Int)):Bool:=(lN f).isSome
def bQ (f:(List Int)):Bool:=(lN f).getD (zero .bool)
def DK (g:(List Int))(f:Int):Bool:=(sD g f).isSome
def qT (g:(List Int))(f:Int):Bool:=(sD g f).getD (zero .bool)
def wh (m:Bool)(K:Bool→Option p)(r:kh p)(c:tCommit.den):Option p:=let o:Bool:=il c.2.1>4;let n:Bool:=!bQ c.2.2.1;let l:=qT c.2.1 c.1;let j:=qT c.2.2.1 c.1;let d:Bool:=il c.2.2.1>4;cl m .bool (cv c.1) λr1=>let f:=cond (!r1) true (!bQ c.2.1);let i:=cond f true n;let e:Bool:=!cond (!r1) true (!bQ c.2.1);let a:=cond i true o;let k:=cond a true d;let h:Bool:=!cond a true d;let g:=cond k true l;let b:Bool:=!cond k true l;nq m [2] (!!r1) (nm m 1 (!!r1) (XY c.2.1) (nq m [2,0] (!!r1) (nq m [2] e (nm m 1 e (XY c.2.2.1) (nq m [2,0] e (nq m [2,2,2,0] (!cond f true n) (nq m [2,2,2,0] (!cond i true o) (nq m [2,2] h (nm m 2 h (DK c.2.1 c.1) (nq m [0] h (nq m [2,2] b (nm m 2 b (DK c.2.2.1 c.1) (nq m [0] b (nq m [2,2,2,0] (!cond g true j) (cond (cond (cond g true j) true (il c.2.2.2.1>80)) (K false) (r c 0))))))))))))))))
def oR:Nat→kh Bool:=lp (λ_ _=>none) λf=>mQ false some f
def mS (c:tCommit.den):Option Bool:=wh false some (oR FU) c
def KF:Ent:=evE (.cons tCommit .unit) af (zero .bool) λx=>mS x.1
def Dy:MS:=⟨1,[(0,[.dat tInt,.dat (.slice tInt),.dat (.slice tInt),.dat .str,.dat (.slice aa)])],[(1,.keep),(3,.dat tInt)]⟩
def KG:Par:=⟨bM.tab,aA [(92,fe),(129,RI),(72,Cx)],λ_=>look [],λ_=>look [(4,Dy)]⟩
def KH:=h10 KG f88
def oQ (f n:Nat):kh AV:=λc i=>aI 0 Dy (KH f 0 [1,1,0,1,0,0]) (aj 0 (aP 0 none (KH f 0 [1,1,1]) i6)) n ⟨mkE 71 [(1,.box 0 0),(3,.val tInt i)],mkH 1 [(0,.box [.val tInt c.1,.val (.slice tInt) c.2.1,.val (.slice tInt) c.2.2.1,.val .str c.2.2.2.1,.val (.slice aa) c.2.2.2.2.1])]⟩
def QH (f g:Nat):oQ f (g+1)=mQ true (sm af) (oQ f g):=Φ
def QI:∀n,oQ FU n=mp2 af (oR n):=cA Φ λf _ h=>(QH FU f).trans (by rw[h];funext _ _;simp only[mQ,ss])
def ZF:am prog 88 (KF):=evX func88 (S:=KG) aG (ah ⟨gJ,aeb,HL,awN⟩) (tys:=[.bool]) (λf x=>wh true (sm af) (oQ f f) x.1) (λx=>by show _=Option.map af _;rw[QI FU];simp only[wh,mS,ss])
abbrev lV:=(Ty.den (.cons aW (.cons .bool .unit)))
abbrev iu (p:Type):=Λ→Int→Int→Int→Option p
def jJ (m:Bool)(K:lV→Option p)(f:iu p):iu p:=λw id field i=>let b:=bd i w.length;let a:=ix aa w i;cond (i≥0) (ck b (nm m 2 (a.1=id) b (nq m [2,2,3,1] (a.1=id) (cond (cond (a.1=id) (a.2.1=field) false) (ck b (K (a.2.2.1,true,()))) (fz m tInt (w64 (i-1)) (λg=>f w id field g)))))) (K ((0,false,[],0,()),false,()))
def ri (m:Bool)(K:lV→Option p)(f:iu p)(w:Λ)(id:Int)(field:Int):Option p:=fz m tInt (w64 (il w-1)) λg=>f w id field g
def kQ:Nat→iu lV:=lp (λ_ _ _ _=>none) λf=>jJ false some f
def fa (w:Λ)(id:Int)(field:Int):Option lV:=ri false some (kQ FU) w id field
def lU (r:lV):AV :=.tup (aF [.val aW r.1,.val .bool r.2.1])
def rj:Ent:=evE (.cons (.slice aa) (.cons tInt (.cons tInt .unit))) lU (zero (.cons aW (.cons .bool .unit))) λx=>fa x.1 x.2.1 x.2.2.1
def yY:MS:=⟨1,[(0,[.dat tInt,.dat .bool,.dat .str,.dat tInt])],[(0,.dat (.slice aa)),(1,.dat tInt),(2,.dat tInt),(6,.keep),(8,.dat tInt)]⟩
def E6:Par:=⟨bM.tab,aA [],λ_=>look [],λ_=>look [(2,yY)]⟩
def Tt:KT:=br bM.tab [.cell 6 56,.tmp 7] [aW,.bool]
def E7:=h10 E6 f120
def kP (f n:Nat):iu AV:=λw id field i=>aI 0 yY (E7 f 0 [1,0,1,0,0]) (aj 0 (aP 0 none (E7 f 0 [1,1]) Tt)) n ⟨mkE 38 [(0,.val (.slice aa) w),(1,.val tInt id),(2,.val tInt field),(6,.box 0 0),(8,.val tInt i)],mkH 1 [(0,.box [.val tInt (0:Int),.val .bool false,.val .str [],.val tInt (0:Int)])]⟩
def L7 (f g:Nat):kP f (g+1)=jJ true (sm lU) (kP f g):=Φ
def L8:∀n,kP FU n=mp4 lU (kQ n):=cA Φ λf _ h=>(L7 FU f).trans (by rw[h];funext _ _ _ _;simp only[jJ,ss])
def xW:am prog 120 (rj):=evX func120 (S:=E6) aG (ah trivial) (tys:=[aW,.bool]) (λf x=>ri true (sm lU) (kP f f) x.1 x.2.1 x.2.2.1) (λx=>by show _=Option.map lU _;rw[L8 FU];simp only[ri,fa,ss])
def EF (m:Bool)(K:Int→Option p)(s:ag.den)(id:Int):Option p:=ce m (.slice aM) (cj s id 1) (iX s id 1) λr1=>cond (il r1=0) (K 0) (ck (bd 0 r1.length) (K (ix aM r1 0).2.1.1))
def gu (s:ag.den)(id:Int):Option Int:=EF false some s id
def AK:Ent:=evE (.cons ag (.cons tInt .unit)) aO (zero tInt) λx=>gu x.1 x.2.1
def XM:Par:=⟨bM.tab,aA [(45,EW)],λ_=>look [],λ_=>look []⟩
def EE:am prog 20 (AK):=evX func20 (S:=XM) aG (ah ⟨OH,awN⟩) (tys:=[tInt]) (λf x=>EF true (sm aO) x.1 x.2.1) (λx=>by show _=Option.map aO _;simp only[EF,gu,ss])
def wI (m:Bool)(K:Int→Option p)(s:ag.den)(w:Λ)(id:Int):Option p:=cl m tInt (gu s id) λr1=>cond (!r1=0) (K r1) (cl m (.cons aW (.cons .bool .unit)) (fa w id 1) (λr2=>K r2.1.1))
def mY (s:ag.den)(w:Λ)(id:Int):Option Int:=wI false some s w id
def KY:Ent:=evE (.cons ag (.cons (.slice aa) (.cons tInt .unit))) aO (zero tInt) λx=>mY x.1 x.2.1 x.2.2.1
def aat:Par:=⟨bM.tab,aA [(20,AK),(120,rj)],λ_=>look [],λ_=>look []⟩
def aas:am prog 131 (KY):=evX func131 (S:=aat) aG (ah ⟨EE,xW,awN⟩) (tys:=[tInt]) (λf x=>wI true (sm aO) x.1 x.2.1 x.2.2.1) (λx=>by show _=Option.map aO _;simp only[wI,mY,ss])
def so (m:Bool)(K:Bool→Option p)(f:Int):Option p:=let b:Bool:=!cond (f≥1) (f≤4) false&&f≥8;let a:Bool:=!cond (f≥1) (f≤4) false;nq m [2,1] (f≥1) (nq m [2,2] a (nq m [2] b (nm m 0 a (ii b&&true) (nq m [0] a (K (cond (cond (f≥1) (f≤4) false) true (cond (f≥8) (decide (f<48)) false)))))))
def hZ (f:Int):Option Bool:=so false some f
def HA:Ent:=evE (.cons tInt .unit) af (zero .bool) λx=>hZ x.1
def Vj:am prog 130 (HA):=evX func130 (S:=rB) aG (ah trivial) (tys:=[.bool]) (λf x=>so true (sm af) x.1) (λx=>by show _=Option.map af _;simp only[so,hZ,ss])
def zn (m:Bool)(K:Bool→Option p)(f:Int)(field:Int)(v:aW.den):Option p:=let a:Bool:=!decide (field=3);(cl m .bool (jn f field v) λr1=>(nq m [3,2] r1 (nq m [2,2] (r1&&(!(!eqD aW v (0,false,[],0,())))) (nq m [2] ((r1&&(!(!eqD aW v (0,false,[],0,()))))&&a) (nm m 0 (r1&&(!(!eqD aW v (0,false,[],0,())))) ((ii ((r1&&(!(!eqD aW v (0,false,[],0,()))))&&a))&&true) (nm m 0 r1 (ii (r1&&(!(!eqD aW v (0,false,[],0,()))))) (nq m [1] r1 (K (bif r1 then(bif (!eqD aW v (0,false,[],0,()))then true else(bif a then(!decide (field=4))else false))else false)))))))))
def p9 (f:Int)(field:Int)(v:aW.den):Option Bool:=zn false some f field v
def PE:Ent:=evE (.cons tInt (.cons tInt (.cons aW .unit))) af (zero .bool) λx=>p9 x.1 x.2.1 x.2.2.1
def ach:Par:=⟨bM.tab,aA [(134,CC)],λ_=>look [],λ_=>look []⟩
def acg:am prog 132 (PE):=evX func132 (S:=ach) aG (ah ⟨Lm,awN⟩) (tys:=[.bool]) (λf x=>zn true (sm af) x.1 x.2.1 x.2.2.1) (λx=>by show _=Option.map af _;simp only[zn,p9,ss])
abbrev jD (p:Type):=tCommit.den→aa.den→Int→Option p
def lz (m:Bool)(K:Int→Option p)(f:aT p):jD p:=λc x g=>cl m (.cons aW (.cons .bool .unit)) (fa c.2.2.2.2.1 x.1 g) λr5=>cond (!r5.2.1) (K 16) f
def ly (m:Bool)(K:Int→Option p):aT p:=(K 0)
def aaB (f:Int):Bool:=(hZ f).isSome
def aaC (f:Int):Bool:=(hZ f).getD (zero .bool)
def sF (m:Bool)(K:Int→Option p)(f:jD p)(g:aT p)(s:ag.den)(c:tCommit.den)(x:aa.den):Option p:=let a:=cond (x.2.2.1.1<1) true (x.2.2.1.1>5);cl m .bool (cv x.1) λr1=>let b:Bool:=!cond (!r1) true (x.1=c.1);nq m [2,2,3,0] (!!r1) (nq m [2] b (nm m 1 b (aaB x.2.1) (nq m [2,0] b (cond (cond (cond (!r1) true (x.1=c.1)) true (!aaC x.2.1)) (K 5) (cl m tInt (gu s x.1) (λr2=>cond (x.2.1=1) (nq m [2,2,2,0] (!x.2.2.1.1<1) (nq m [2,2,2,2,3,0] (!cond (x.2.2.1.1<1) true (x.2.2.1.1>5)) (nq m [2,2] (!cond a true (!eqD aW x.2.2.1 (x.2.2.1.1,false,[],0,()))) (nq m [2,2,3] (!cond a true (!eqD aW x.2.2.1 (x.2.2.1.1,false,[],0,()))&&!r2=0) (nm m 0 (!cond a true (!eqD aW x.2.2.1 (x.2.2.1.1,false,[],0,()))) (ii (!cond a true (!eqD aW x.2.2.1 (x.2.2.1.1,false,[],0,()))&&!r2=0)&&true) (nq m [0] (!cond a true (!eqD aW x.2.2.1 (x.2.2.1.1,false,[],0,()))) (cond (cond (cond a true (!eqD aW x.2.2.1 (x.2.2.1.1,false,[],0,()))) true (cond (!r2=0) (!r2=x.2.2.1.1) false)) (K 10) (cond (r2=0) (cond (x.2.2.1.1=5) (f c x 4) (f c x 3)) g)))))))) (cl m tInt (mY s c.2.2.2.2.1 x.1) (λr3=>cond (r3=0) (K 7) (cl m .bool (p9 r3 x.2.1 x.2.2.1) (λr4=>cond (!r4) (K 13) (K 0)))))))))))
def gy:aT Int:=ly false some
def jF:jD Int:=lz false some gy
def kx (s:ag.den)(c:tCommit.den)(x:aa.den):Option Int:=sF false some jF gy s c x
def HU:Ent:=evE (.cons ag (.cons tCommit (.cons aa .unit))) aO (zero tInt) λx=>kx x.1 x.2.1 x.2.2.1
def Jm:MS:=⟨3,[(0,[.drop]),(1,[.dat tInt,.dat (.slice tInt),.dat (.slice tInt),.dat .str,.dat (.slice aa)]),(2,[.dat tInt,.dat tInt,.dat tInt,.dat .bool,.dat .str,.dat tInt])],[(4,.keep),(5,.keep),(8,.dat tInt)]⟩
def HV:Par:=⟨bM.tab,aA [(92,fe),(130,HA),(20,AK),(131,KY),(132,PE),(120,rj)],λ_=>look [(11,Jm),(14,cw)],λ_=>look []⟩
def HW:KT:=br bM.tab [.tmp 6] [tInt]
def nl:=h10 HV f90
def pF (f:Nat):jD AV:=λc x g=>nl f 0 [1,1,1,0,1,0,1,0,1,0,1,1] ⟨mkE 98 [(4,.box 1 0),(5,.box 2 0),(8,.val tInt g)],mkH 3 [(0,.box [.unk]),(1,.box [.val tInt c.1,.val (.slice tInt) c.2.1,.val (.slice tInt) c.2.2.1,.val .str c.2.2.2.1,.val (.slice aa) c.2.2.2.2.1]),(2,.box [.val tInt x.1,.val tInt x.2.1,.val tInt x.2.2.1.1,.val .bool x.2.2.1.2.1,.val .str x.2.2.1.2.2.1,.val tInt x.2.2.1.2.2.2.1])]⟩ (aP 0 (some cw) (nl f 0 [1,1,1,0,1,0,1,1]) (aP 0 none (nl f 0 [1,1,1,1]) HW))
def jE (f:Nat):aT AV:=nl f 0 [1,1,1,0,1,0,1,1] ⟨mkE 98 [],mkH 0 []⟩ (aP 0 none (nl f 0 [1,1,1,1]) HW)
def Jo (f:Nat):pF f=lz true (sm aO) (jE f):=Φ
def Jn (f:Nat):jE f=ly true (sm aO):=Φ
def xQ:jE FU=mp0 aO (gy):=(Jn FU).trans (by simp only[ly,gy,ss])
def Jp:pF FU=mp3 aO (jF):=(Jo FU).trans (by rw[xQ];funext _ _ _;simp only[lz,jF,ss])
def VG:am prog 90 (HU):=evX func90 (S:=HV) aG (ah ⟨gJ,Vj,EE,aas,acg,xW,awN⟩) (tys:=[tInt]) (λf x=>sF true (sm aO) (pF f) (jE f) x.1 x.2.1 x.2.2.1) (λx=>by show _=Option.map aO _;rw[Jp,xQ];simp only[sF,kx,ss])
def fA (m:Bool)(K:Bool→Option p)(f:bz p):bz p:=λl i=>let e:=ix aa l i;let c:=bd i l.length;let a:=w64 (i-1);let d:=ix aa l a;let b:=bd a l.length;cond (i<il l) (ck b (ck b (ck c (ck c (ce m .bool true (vj d.1 d.2.1 e.1 e.2.1) (λr1=>cond (!r1) (K false) (fz m tInt (w64 (i+1)) (λg=>f l g)))))))) (K true)
def sa (m:Bool)(K:Bool→Option p)(f:bz p)(l:Λ):Option p:=f l 1
def iN:Nat→bz Bool:=lp (λ_ _=>none) λf=>fA false some f
def kl (l:Λ):Option Bool:=sa false some (iN FU) l
def GE:Ent:=evE (.cons (.slice aa) .unit) af (zero .bool) λx=>kl x.1
def GF:Par:=⟨bM.tab,aA [(48,xo)],λ_=>look [],λ_=>look [(2,gV)]⟩
def GG:=h10 GF f89
def lh (f n:Nat):bz AV:=λl i=>aI 0 gV (GG f 0 [1,0,1,0,0]) (aj 0 (aP 0 none (GG f 0 [1,1]) i6)) n ⟨mkE 34 [(0,.val (.slice aa) l),(3,.val tInt i)],mkH 0 []⟩
def Ng (f g:Nat):lh f (g+1)=fA true (sm af) (lh f g):=Φ
def Nh:∀n,lh FU n=mp2 af (iN n):=cA Φ λf _ h=>(Ng FU f).trans (by rw[h];funext _ _;simp only[fA,ss])
def UJ:am prog 89 (GE):=evX func89 (S:=GF) aG (ah ⟨OL,awN⟩) (tys:=[.bool]) (λf x=>sa true (sm af) (lh f f) x.1) (λx=>by show _=Option.map af _;rw[Nh FU];simp only[sa,kl,ss])
abbrev ky (p:Type):=ag.den→tCommit.den→Int→Option p
def np (m:Bool)(K:Int→Option p)(f:ky p):ky p:=λs c i=>cond (i<il c.2.2.2.2.1) (ck (bd i c.2.2.2.2.1.length) (cl m tInt (kx s c (ix aa c.2.2.2.2.1 i)) (λr3=>cond (!r3=0) (K r3) (fz m tInt (w64 (i+1)) (λg=>f s c g))))) (K 0)
def wS (m:Bool)(K:Int→Option p)(f:ky p)(s:ag.den)(c:tCommit.den):Option p:=cl m .bool (mS c) λr1=>cond (!r1) (K 5) (cl m .bool (kl c.2.2.2.2.1) (λr2=>cond (!r2) (K 12) (f s c 0)))
def pa:Nat→ky Int:=lp (λ_ _ _=>none) λf=>np false some f
def nr (s:ag.den)(c:tCommit.den):Option Int:=wS false some (pa FU) s c
def Lj:Ent:=evE (.cons ag (.cons tCommit .unit)) aO (zero tInt) λx=>nr x.1 x.2.1
def DN:MS:=⟨2,[(0,[.dat (.slice ae)]),(1,[.dat tInt,.dat (.slice tInt),.dat (.slice tInt),.dat .str,.dat (.slice aa)])],[(2,.keep),(3,.keep),(5,.dat tInt)]⟩
def Lk:Par:=⟨bM.tab,aA [(88,KF),(89,GE),(90,HU)],λ_=>look [],λ_=>look [(6,DN)]⟩
def CB:KT:=br bM.tab [.tmp 4] [tInt]
def Ll:=h10 Lk f44
def o9 (f n:Nat):ky AV:=λs c i=>aI 0 DN (Ll f 0 [1,1,1,0,1,0,0]) (aj 0 (aP 0 none (Ll f 0 [1,1,1,1]) CB)) n ⟨mkE 32 [(2,.box 0 0),(3,.box 1 0),(5,.val tInt i)],mkH 2 [(0,.box [.val (.slice ae) s.1]),(1,.box [.val tInt c.1,.val (.slice tInt) c.2.1,.val (.slice tInt) c.2.2.1,.val .str c.2.2.2.1,.val (.slice aa) c.2.2.2.2.1])]⟩
def R1 (f g:Nat):o9 f (g+1)=np true (sm aO) (o9 f g):=Φ
def R5:∀n,o9 FU n=mp3 aO (pa n):=cA Φ λf _ h=>(R1 FU f).trans (by rw[h];funext _ _ _;simp only[np,ss])
def aaQ:am prog 44 (Lj):=evX func44 (S:=Lk) aG (ah ⟨ZF,UJ,VG,awN⟩) (tys:=[tInt]) (λf x=>wS true (sm aO) (o9 f f) x.1 x.2.1) (λx=>by show _=Option.map aO _;rw[R5 FU];simp only[wS,nr,ss])
abbrev iQ:=(Ty.den (.cons tCommit (.cons .bool .unit)))
abbrev nu (p:Type):=Υ→Int→Int→Option p
def qX (m:Bool)(K:iQ→Option p)(g:nu p):nu p:=λl f i=>let a:=bd i l.length;cond (i<il l) (ck a (cond ((ix tCommit l i).1=f) (ck a (K (ix tCommit l i,true,()))) (fz m tInt (w64 (i+1)) (λj=>g l f j)))) (K ((0,[],[],[],[],()),false,()))
def Bk (m:Bool)(K:iQ→Option p)(g:nu p)(l:Υ)(f:Int):Option p:=g l f 0
def sJ:Nat→nu iQ:=lp (λ_ _ _=>none) λf=>qX false some f
def lQ (l:Υ)(f:Int):Option iQ:=Bk false some (sJ FU) l f
def kA (r:iQ):AV :=.tup (aF [.val tCommit r.1,.val .bool r.2.1])
def H3:Ent:=evE (.cons (.slice tCommit) (.cons tInt .unit)) kA (zero (.cons tCommit (.cons .bool .unit))) λx=>lQ x.1 x.2.1
def HZ:MS:=⟨1,[(0,[.dat tInt,.own tInt 3,.own tInt 3,.dat .str,.own aa 58])],[(0,.dat (.slice tCommit)),(1,.dat tInt),(4,.keep),(6,.dat tInt)]⟩
def Se:Par:=⟨bM.tab,aA [],λ_=>look [],λ_=>look [(2,HZ)]⟩
def aeB:KT:=br bM.tab [.cell 4 42,.tmp 5] [tCommit,.bool]
def Sf:=h10 Se f74
def sI (f n:Nat):nu AV:=λl g i=>aI 0 HZ (Sf f 0 [1,0,1,0,0]) (aj 0 (aP 0 none (Sf f 0 [1,1]) aeB)) n ⟨mkE 25 [(0,.val (.slice tCommit) l),(1,.val tInt g),(4,.box 0 0),(6,.val tInt i)],mkH 4 [(0,.box [.val tInt (0:Int),.own 1 0 tInt [],.own 2 0 tInt [],.val .str [],.own 3 0 aa []]),(1,.row tInt 3 0),(2,.row tInt 3 0),(3,.row aa 58 0)]⟩
def VI (f g:Nat):sI f (g+1)=qX true (sm kA) (sI f g):=Φ
def VJ:∀n,sI FU n=mp3 kA (sJ n):=cA Φ λf _ h=>(VI FU f).trans (by rw[h];funext _ _ _;simp only[qX,ss])
def Sa:am prog 74 (H3):=evX func74 (S:=Se) aG (ah trivial) (tys:=[tCommit,.bool]) (λf x=>Bk true (sm kA) (sI f f) x.1 x.2.1) (λx=>by show _=Option.map kA _;rw[VJ FU];simp only[Bk,lQ,ss])
abbrev ve (p:Type):=Υ→(List Int)→Nat→(List Int)→Option p
def BK (m:Bool)(K:(List Int)→Option p)(j:ve p):ve p:=λl out f g=>let b:=ni f-1;let c:=w64 b;let a:=List.getD g (0+Int.toNat c) (zero tInt);cond (ni f>0) (ck (0≤w64 b&&w64 b<ni f) (ck (0≤w64 b&&w64 b≤ni f) (cl m (.cons tCommit (.cons .bool .unit)) (lQ l a) (λr1=>nm m 2 (!!r1.2.1) (DK out a) (nq m [0] (!!r1.2.1) (cond (cond (!r1.2.1) true (qT out a)) (fm m (0+Int.toNat c) (λr=>j l out r g)) (cl m (.slice tInt) (wg out a) (λr2=>ck (lm (0+Int.toNat c+List.length r1.1.2.1)) (fm m (0+Int.toNat c+List.length r1.1.2.1) (λr=>fz m (.slice tInt) (List.take (0+Int.toNat c) g++r1.1.2.1) λC=>j l r2 r C)))))))))) (K out)
def OF (m:Bool)(K:(List Int)→Option p)(g:ve p)(l:Υ)(f:(List Int)):Option p:=ck (lm (0+List.length f)) (fm m (0+List.length f) (λr=>fz m (.slice tInt) (List.take 0 []++f) λj=>g l [] r j))
def BJ:Nat→ve (List Int):=lp (λ_ _ _ _=>none) λf=>BK false some f
def pm (l:Υ)(f:(List Int)):Option (List Int):=OF false some (BJ FU) l f
def OG:Ent:=evE (.cons (.slice tCommit) (.cons (.slice tInt) .unit)) aS (zero (.slice tInt)) λx=>pm x.1 x.2.1
def To:MS:=⟨0,[],[(0,.dat (.slice tCommit)),(5,.dat (.slice tInt)),(6,.mut tInt 3)]⟩
def agl:Par:=⟨Pw.tab,aA [(74,H3),(72,Cx),(75,UD)],λ_=>look [],λ_=>look [(3,To)]⟩
def anW:KT:=br Pw.tab [.tmp 4] [(.slice tInt)]
def agm:=h10 agl f37
def BI (g n:Nat):ve AV:=λl out f j=>aI 0 To (agm g 0 [1,1,1,0,0,0]) (aj 0 (aP 0 none (agm g 0 [1,1,1,1]) anW)) n ⟨mkE 48 [(0,.val (.slice tCommit) l),(5,.val (.slice tInt) out),(6,.msl 0 0 0 f)],mkH 1 [(0,.mrow tInt 3 0 j)]⟩
def agj (f g:Nat):BI f (g+1)=BK true (sm aS) (BI f g):=Φ
def agk:∀n,BI FU n=mp4 aS (BJ n):=cA Φ λf _ h=>(agj FU f).trans (by rw[h];funext _ _ _ _;simp only[BK,ss])
def Wk:am prog 37 (OG):=evX func37 (S:=agl) Pv (ah ⟨Sa,HL,ac9,awN⟩) (tys:=[(.slice tInt)]) (λf x=>OF true (sm aS) (BI f f) x.1 x.2.1) (λx=>by show _=Option.map aS _;rw[agk FU];simp only[OF,pm,ss])
def aoS (g:Υ)(f:(List Int)):Bool:=(pm g f).isSome
def alB (g:Υ)(f:(List Int)):(List Int):=(pm g f).getD (zero (.slice tInt))
def xh (m:Bool)(K:Bool→Option p)(l:Υ)(a:Int)(b:Int):Option p:=let d:=alB l [b];let c:Bool:=!a=b;nq m [1] c (nm m 2 c (aoS l [b]) (nm m 2 c (DK d a) (nq m [1] c (K (cond c (qT d a) false)))))
def nL (l:Υ)(a:Int)(b:Int):Option Bool:=xh false some l a b
def LX:Ent:=evE (.cons (.slice tCommit) (.cons tInt (.cons tInt .unit))) af (zero .bool) λx=>nL x.1 x.2.1 x.2.2.1
def abx:Par:=⟨bM.tab,aA [(37,OG),(72,Cx)],λ_=>look [],λ_=>look []⟩
def abw:am prog 87 (LX):=evX func87 (S:=abx) aG (ah ⟨Wk,HL,awN⟩) (tys:=[.bool]) (λf x=>xh true (sm af) x.1 x.2.1 x.2.2.1) (λx=>by show _=Option.map af _;simp only[xh,nL,ss])
abbrev fR (p:Type):=Υ→(List Int)→(List Int)→Int→Option p
abbrev lD (p:Type):=Υ→(List Int)→(List Int)→Int→Bool→Int→Option p
abbrev YW (p:Type):=Υ→(List Int)→(List Int)→Int→Int→Bool→Option p
abbrev YX (p:Type):=Υ→(List Int)→Int→(List Int)→Option p
def tv (m:Bool)(K:(List Int)→Option p)(g:lD p):fR p:=λl f out i=>cond (i<il f) (ck (bd i f.length) (cl m (.cons tCommit (.cons .bool .unit)) (lQ l (ix tInt f i)) (λr1=>g l f out i r1.2.1 0))) (K out)
def p7 (m:Bool)(K:(List Int)→Option p)(g:lD p):YW p:=λl f out i r ok=>fz m tInt (w64 (r+1)) λj=>g l f out i ok j
def p8 (m:Bool)(K:(List Int)→Option p)(g:fR p):YX p:=λl f i out=>fz m tInt (w64 (i+1)) λj=>g l f out j
def tu (m:Bool)(K:(List Int)→Option p)(g:lD p)(j:fR p):lD p:=λl f out i ok r=>let b:=ix tInt f i;let a:=bd i f.length;nq m [2,3,1] ok (cond (cond ok (r<il f) false) (ck a (ck (bd r f.length) (cl m .bool (nL l b (ix tInt f r)) (λr2=>cond r2 (p7 m K g l f out i r false) (p7 m K g l f out i r ok))))) (cond ok (ck a (cl m (.slice tInt) (wg out b) (λr3=>p8 m K j l f i r3))) (p8 m K j l f i out)))
def Eh (m:Bool)(K:(List Int)→Option p)(g:fR p)(l:Υ)(f:(List Int)):Option p:=g l f [] 0
def p5 (g:fR (List Int)):Nat→lD (List Int):=lp (λ_ _ _ _ _ _=>none) λf=>tu false some f g
def vK:Nat→fR (List Int):=lp (λ_ _ _ _=>none) λf=>tv false some (p5 f FU)
def tA (l:Υ)(f:(List Int)):Option (List Int):=Eh false some (vK FU) l f
def WB:Ent:=evE (.cons (.slice tCommit) (.cons (.slice tInt) .unit)) aS (zero (.slice tInt)) λx=>tA x.1 x.2.1
def p0:MS:=⟨0,[],[(0,.dat (.slice tCommit)),(1,.dat (.slice tInt)),(5,.dat (.slice tInt)),(6,.dat tInt)]⟩
def BW:MS:=⟨0,[],[(0,.dat (.slice tCommit)),(1,.dat (.slice tInt)),(5,.dat (.slice tInt)),(6,.dat tInt),(8,.dat .bool),(9,.dat tInt)]⟩
def WC:Par:=⟨bM.tab,aA [(74,H3),(87,LX),(75,UD)],λ_=>look [(8,BW),(4,p0)],λ_=>look [(3,p0),(7,BW)]⟩
def rD:=h10 WC f42
def p6 (g n:Nat):fR AV:=λl f out i=>aI 0 p0 (rD g 0 [1,1,0,1,0,0]) (aj 0 (aP 0 none (rD g 0 [1,1,1]) xf)) n ⟨mkE 52 [(0,.val (.slice tCommit) l),(1,.val (.slice tInt) f),(5,.val (.slice tInt) out),(6,.val tInt i)],mkH 0 []⟩
def vJ (f p n:Nat):lD AV:=λl g out i ok j=>aI 0 BW (rD f 0 [1,1,0,1,0,0,1,0,0,1,0,1,0,0]) (aj 2 (aP 0 none (rD f 0 [1,1,0,1,0,0,1,0,0,1,1]) (aj 1 (aP 0 (some p0) (rD f 0 [1,1,0,1,0,0,1,1]) (kLp 0 p0 (rD f 0 [1,1,0,1,0,0]) (aj 0 (aP 0 none (rD f 0 [1,1,1]) xf)) p))))) n ⟨mkE 52 [(0,.val (.slice tCommit) l),(1,.val (.slice tInt) g),(5,.val (.slice tInt) out),(6,.val tInt i),(8,.val .bool ok),(9,.val tInt j)],mkH 0 []⟩
def Y0 (f g:Nat):p6 f (g+1)=tv true (sm aS) (vJ f g f):=Φ
def YY (f g j:Nat):vJ f g (j+1)=tu true (sm aS) (vJ f g j) (p6 f g):=Φ
def YZ (j:Nat){f:fR (List Int)}(g:p6 FU j=mp4 aS f):∀n,vJ FU j n=mp6 aS (p5 f n):=cA Φ λl _ h=>(YY FU j l).trans (by rw[h,g];funext _ _ _ _ _ _;simp only[tu,p8,p7,ss])
def Y1:∀n,p6 FU n=mp4 aS (vK n):=cA Φ λf _ h=>(Y0 FU f).trans (by rw[YZ f h FU];funext _ _ _ _;simp only[tv,p8,p7,ss])
def agJ:am prog 42 (WB):=evX func42 (S:=WC) aG (ah ⟨Sa,abw,ac9,awN⟩) (tys:=[(.slice tInt)]) (λf x=>Eh true (sm aS) (p6 f f) x.1 x.2.1) (λx=>by show _=Option.map aS _;rw[Y1 FU];simp only[Eh,tA,p8,p7,ss])
abbrev eA (p:Type):=Υ→(List Int)→Int→Option p
abbrev nb (p:Type):=Υ→(List Int)→Int→Bool→Int→Option p
abbrev Vx (p:Type):=Υ→Int→(List Int)→Option p
def qR (m:Bool)(K:(List Int)→Option p)(f:nb p):eA p:=λl out i=>cond (i<il l) (f l out i true 0) (K out)
def lO (m:Bool)(K:(List Int)→Option p)(f:eA p):Vx p:=λl i out=>fz m tInt (w64 (i+1)) λg=>f l out g
def qQ (m:Bool)(K:(List Int)→Option p)(g:nb p)(f:eA p):nb p:=λl out i head j=>let c:=bd i l.length;let b:=ix tCommit l j;let a:=ix tCommit l i;cond (j<il l) (nm m 2 head (bd j l.length) (nq m [2,2] head (nm m 2 head c (nq m [2,2] head (nm m 2 head (DK b.2.1 a.1) (nq m [2,1] head (fz m .bool (cond head (!qT b.2.1 a.1) false) (λC=>fz m tInt (w64 (j+1)) λr=>g l out i C r)))))))) (cond head (ck c (ck (lm (List.length out+List.length ([a.1]:List Int))) (fz m (.slice tInt) (out++[a.1]) (λJ=>lO m K f l i J)))) (lO m K f l i out))
def AU (m:Bool)(K:(List Int)→Option p)(f:eA p)(l:Υ):Option p:=f l [] 0
def nd (g:eA (List Int)):Nat→nb (List Int):=lp (λ_ _ _ _ _=>none) λf=>qQ false some f g
def sC:Nat→eA (List Int):=lp (λ_ _ _=>none) λf=>qR false some (nd f FU)
def qS (l:Υ):Option (List Int):=AU false some (sC FU) l
def RN:Ent:=evE (.cons (.slice tCommit) .unit) aS (zero (.slice tInt)) λx=>qS x.1
def nc:MS:=⟨0,[],[(0,.dat (.slice tCommit)),(3,.own tInt 3),(4,.dat tInt)]⟩
def HK:MS:=⟨0,[],[(0,.dat (.slice tCommit)),(3,.own tInt 3),(4,.dat tInt),(5,.dat .bool),(6,.dat tInt)]⟩
def RO:Par:=⟨bM.tab,aA [(72,Cx)],λ_=>look [(4,nc)],λ_=>look [(3,nc),(7,HK)]⟩
def nh:=h10 RO f38
def ng (f n:Nat):eA AV:=λl out i=>aI 0 nc (nh f 0 [1,1,0,1,0,0]) (aj 0 (aP 0 none (nh f 0 [1,1,1]) NQ)) n ⟨mkE 44 [(0,.val (.slice tCommit) l),(3,.own 0 0 tInt out),(4,.val tInt i)],mkH 1 [(0,.row tInt 3 0)]⟩
def sA (f j n:Nat):nb AV:=λl out i head g=>aI 0 HK (nh f 0 [1,1,0,1,0,0,1,0,0,1,0,1,0,0]) (aj 2 (aP 0 none (nh f 0 [1,1,0,1,0,0,1,0,0,1,1]) (aj 1 (aP 0 (some nc) (nh f 0 [1,1,0,1,0,0,1,1]) (kLp 0 nc (nh f 0 [1,1,0,1,0,0]) (aj 0 (aP 0 none (nh f 0 [1,1,1]) NQ)) j))))) n ⟨mkE 44 [(0,.val (.slice tCommit) l),(3,.own 0 0 tInt out),(4,.val tInt i),(5,.val .bool head),(6,.val tInt g)],mkH 1 [(0,.row tInt 3 0)]⟩
def VA (f g:Nat):ng f (g+1)=qR true (sm aS) (sA f g f):=Φ
def Vy (f g j:Nat):sA f g (j+1)=qQ true (sm aS) (sA f g j) (ng f g):=Φ
def Vz (j:Nat){f:eA (List Int)}(g:ng FU j=mp3 aS f):∀n,sA FU j n=mp5 aS (nd f n):=cA Φ λl _ h=>(Vy FU j l).trans (by rw[h,g];funext _ _ _ _ _;simp only[qQ,lO,ss])
def VB:∀n,ng FU n=mp3 aS (sC n):=cA Φ λf _ h=>(VA FU f).trans (by rw[Vz f h FU];funext _ _ _;simp only[qR,lO,ss])
def aec:am prog 38 (RN):=evX func38 (S:=RO) aG (ah ⟨HL,awN⟩) (tys:=[(.slice tInt)]) (λf x=>AU true (sm aS) (ng f f) x.1) (λx=>by show _=Option.map aS _;rw[VB FU];simp only[AU,qS,lO,ss])
def nZ (m:Bool)(K:Bool→Option p)(c:tCommit.den)(id:Int)(field:Int):Option p:=cl m (.cons aW (.cons .bool .unit)) (fa c.2.2.2.2.1 id field) λr1=>K r1.2.1
def fO (c:tCommit.den)(id:Int)(field:Int):Option Bool:=nZ false some c id field
def C2:Ent:=evE (.cons tCommit (.cons tInt (.cons tInt .unit))) af (zero .bool) λx=>fO x.1 x.2.1 x.2.2.1
def OY:Par:=⟨bM.tab,aA [(120,rj)],λ_=>look [],λ_=>look []⟩
def OX:am prog 73 (C2):=evX func73 (S:=OY) aG (ah ⟨xW,awN⟩) (tys:=[.bool]) (λf x=>nZ true (sm af) x.1 x.2.1 x.2.2.1) (λx=>by show _=Option.map af _;simp only[nZ,fO,ss])
abbrev gY (p:Type):=Υ→(List Int)→Υ→(List (List Int))→Int→Option p
abbrev Qj (p:Type):=Υ→(List Int)→Int→Υ→(List (List Int))→Option p
abbrev bP (p:Type):=Υ→(List (List Int))→Int→Lb'→Option p
abbrev cr (p:Type):=Υ→(List (List Int))→Int→Int→Lb'→Option p
abbrev iG (p:Type):=Υ→(List (List Int))→Int→Int→Lb'→Bool→Int→Option p
def fy (m:Bool)(K:ag.den→Option p)(j:gY p):Qj p:=λl C i f g=>fz m tInt (w64 (i+1)) λr=>j l C f g r
def mJ (m:Bool)(K:ag.den→Option p)(j:gY p)(C:bP p):gY p:=λl r f g i=>let b:=ix tCommit l i;let a:=bd i l.length;cond (i<il l) (ck a (cl m .bool (sD r b.1) (λr1=>cond r1 (ck a (ck (lm (List.length f+List.length ([ix tCommit l i]:List tCommit.den))) (ck a (cl m (.slice tInt) (pm l [b.1]) (λr2=>ck (lm (List.length g+List.length ([r2]:List (List Int)))) (fz m (.slice tCommit) (f++[ix tCommit l i]) (λP=>fz m (.slice (.slice tInt)) (g++[r2]) λJ=>fy m K j l r i P J))))))) (fy m K j l r i f g)))) (C f g 0 [])
def kc (m:Bool)(K:ag.den→Option p)(j:cr p):bP p:=λf l i g=>cond (i<il f) (j f l i 0 g) (K (g,()))
def j9 (m:Bool)(K:ag.den→Option p)(r:iG p)(C:bP p):cr p:=λf g i l j=>let b:=bd i f.length;let a:=ix tCommit f i;ck b (cond (l<il a.2.2.2.2.1) (ck b (ck (bd l a.2.2.2.2.1.length) (r f g i l j true 0))) (fz m tInt (w64 (i+1)) (λJ=>C f g J j)))
def dQ (m:Bool)(K:ag.den→Option p)(g:cr p):cr p:=λf j i C l=>fz m tInt (w64 (C+1)) λr=>g f j i r l
def Fa (j:tCommit.den)(g:Int)(f:Int):Bool:=(fO j g f).isSome
def fb (j:tCommit.den)(g:Int)(f:Int):Bool:=(fO j g f).getD (zero .bool)
def j8 (m:Bool)(K:ag.den→Option p)(T:iG p)(J:cr p):iG p:=λl r i R C P j=>let h:Bool:=!j=i;let f:=bd i l.length;let e:=ix (.slice tInt) r j;let d:=ix tCommit l j;let c:=ix tCommit l i;let a:=ix aa c.2.2.2.2.1 R;let g:Bool:=!fb d a.1 a.2.1;let b:Bool:=!cond (j=i) true g;nq m [1] (j<il l) (cond (cond (j<il l) P false) (nm m 2 h (bd j l.length) (nq m [2,2,2] h (nm m 3 h (Fa d a.1 a.2.1) (nq m [2,0] h (nm m 2 b (bd j r.length) (nq m [2] b (nm m 2 b f (nq m [2,2] b (nm m 2 b (DK e c.1) (nq m [2,0] b (fz m .bool (cond (cond (j=i) true g) true (!qT e c.1)) (λy5_=>fz m tInt (w64 (j+1)) λU=>T l r i R C y5_ U)))))))))))) (cond P (ce m (.slice aM) (cj (C,()) a.1 a.2.1) (iX (C,()) a.1 a.2.1) (λr3=>ck (lm (List.length ([]:List aM.den)+List.length r3)) (ck f (ck (lm (List.length ([]++r3)+List.length ([(c.1,a.2.2.1,())]:List aM.den))) (ce m ag (acL (C,()) a.1 a.2.1 ([]++r3++[(c.1,a.2.2.1,())])) (de (C,()) a.1 a.2.1 ([]++r3++[(c.1,a.2.2.1,())])) (λr4=>dQ m K J l r i R r4.1)))))) (dQ m K J l r i R C)))
def wa (m:Bool)(K:ag.den→Option p)(f:gY p)(l:Υ)(g:(List Int)):Option p:=f l g [] [] 0
def iI (C:bP ag.den)(g:cr ag.den):Nat→iG ag.den:=lp (λ_ _ _ _ _ _ _=>none) λf=>j8 false some f g
def iK (C:bP ag.den):Nat→cr ag.den:=lp (λ_ _ _ _ _=>none) λf=>j9 false some (iI C f FU) C
def iL:Nat→bP ag.den:=lp (λ_ _ _ _=>none) λC=>kc false some (iK C FU)
def j6:Nat→gY ag.den:=lp (λ_ _ _ _ _=>none) λf=>mJ false some f (iL FU)
def mK (l:Υ)(f:(List Int)):Option ag.den:=wa false some (j6 FU) l f
def aR (r:ag.den):AV :=.val ag r
def Kr:Ent:=evE (.cons (.slice tCommit) (.cons (.slice tInt) .unit)) aR (zero ag) λx=>mK x.1 x.2.1
def tZ:MS:=⟨1,[(0,[.dat (.slice ae)])],[(0,.dat (.slice tCommit)),(1,.dat (.slice tInt)),(4,.keep),(5,.own tCommit 42),(6,.own (.slice tInt) 39),(7,.dat tInt)]⟩
def k8:MS:=⟨8,[(0,[.dat (.slice ae)]),(7,[.dat (.slice ae)])],[(4,.keep),(5,.own tCommit 42),(6,.own (.slice tInt) 39),(8,.keep),(9,.dat tInt)]⟩
def iH:MS:=⟨8,[(0,[.dat (.slice ae)]),(7,[.dat (.slice ae)])],[(4,.keep),(5,.own tCommit 42),(6,.own (.slice tInt) 39),(8,.keep),(9,.dat tInt),(10,.dat tInt)]⟩
def zM:MS:=⟨27,[(0,[.dat (.slice ae)]),(7,[.dat (.slice ae)]),(26,[.dat tInt,.dat tInt,.dat tInt,.dat .bool,.dat .str,.dat tInt])],[(4,.keep),(5,.own tCommit 42),(6,.own (.slice tInt) 39),(8,.keep),(9,.dat tInt),(10,.dat tInt),(11,.keep),(12,.dat .bool),(13,.dat tInt)]⟩
def Ks:Par:=⟨bM.tab,aA [(72,Cx),(37,OG),(73,C2),(45,EW),(32,MH)],λ_=>look [(5,tZ),(15,iH)],λ_=>look [(4,tZ),(11,k8),(14,iH),(19,zM)]⟩
def wb:KT:=br bM.tab [.cell 4 27] [ag]
def cg:=h10 Ks f36
def oN (f n:Nat):gY AV:=λl p g j i=>aI 0 tZ (cg f 0 [1,1,1,0,1,0,0]) (aj 0 (aP 0 none (cg f 0 [1,1,1,1]) wb)) n ⟨mkE 134 [(0,.val (.slice tCommit) l),(1,.val (.slice tInt) p),(4,.box 0 0),(5,.own 1 0 tCommit g),(6,.own 2 0 (.slice tInt) j),(7,.val tInt i)],mkH 3 [(0,.box [.val (.slice ae) []]),(1,.row tCommit 42 0),(2,.row (.slice tInt) 39 0)]⟩
def fW (f n:Nat):bP AV:=λg j i l=>aI 0 k8 (cg f 0 [1,1,1,1,1,0,1,0,0]) (aj 2 (aP 0 none (cg f 0 [1,1,1,1,1,1]) wb)) n ⟨mkE 134 [(4,.box 0 0),(5,.own 8 0 tCommit g),(6,.own 9 0 (.slice tInt) j),(8,.box 7 0),(9,.val tInt i)],mkH 10 [(0,.box [.val (.slice ae) []]),(1,.row tCommit 42 1),(2,.row (.slice tInt) 39 1),(7,.box [.val (.slice ae) l]),(8,.row tCommit 42 0),(9,.row (.slice tInt) 39 0)]⟩
def iJ (f r n:Nat):cr AV:=λg j i p l=>aI 0 iH (cg f 0 [1,1,1,1,1,0,1,0,0,1,0,0,1,0,0]) (aj 4 (aj 3 (aP 0 none (cg f 0 [1,1,1,1,1,0,1,0,0,1,1]) (kLp 0 k8 (cg f 0 [1,1,1,1,1,0,1,0,0]) (aj 2 (aP 0 none (cg f 0 [1,1,1,1,1,1]) wb)) r)))) n ⟨mkE 134 [(4,.box 0 0),(5,.own 8 0 tCommit g),(6,.own 9 0 (.slice tInt) j),(8,.box 7 0),(9,.val tInt i),(10,.val tInt p)],mkH 10 [(0,.box [.val (.slice ae) []]),(1,.row tCommit 42 1),(2,.row (.slice tInt) 39 1),(7,.box [.val (.slice ae) l]),(8,.row tCommit 42 0),(9,.row (.slice tInt) 39 0)]⟩
def k9 (f P J n:Nat):iG AV:=λg p i r C l j=>let a:=ix aa (ix tCommit g i).2.2.2.2.1 r;aI 0 zM (cg f 0 [1,1,1,1,1,0,1,0,0,1,0,0,1,0,0,1,0,0,1,1,0,1,0,0]) (aj 6 (aP 0 none (cg f 0 [1,1,1,1,1,0,1,0,0,1,0,0,1,0,0,1,0,0,1,1,1]) (aj 5 (aP 0 (some iH) (cg f 0 [1,1,1,1,1,0,1,0,0,1,0,0,1,0,0,1,1]) (kLp 0 iH (cg f 0 [1,1,1,1,1,0,1,0,0,1,0,0,1,0,0]) (aj 4 (aj 3 (aP 0 none (cg f 0 [1,1,1,1,1,0,1,0,0,1,1]) (kLp 0 k8 (cg f 0 [1,1,1,1,1,0,1,0,0]) (aj 2 (aP 0 none (cg f 0 [1,1,1,1,1,1]) wb)) P)))) J))))) n ⟨mkE 134 [(4,.box 0 0),(5,.own 27 0 tCommit g),(6,.own 28 0 (.slice tInt) p),(8,.box 7 0),(9,.val tInt i),(10,.val tInt r),(11,.box 26 0),(12,.val .bool l),(13,.val tInt j)],mkH 29 [(0,.box [.val (.slice ae) []]),(1,.row tCommit 42 1),(2,.row (.slice tInt) 39 1),(7,.box [.val (.slice ae) C]),(8,.row tCommit 42 1),(9,.row (.slice tInt) 39 1),(26,.box [.val tInt a.1,.val tInt a.2.1,.val tInt a.2.2.1.1,.val .bool a.2.2.1.2.1,.val .str a.2.2.1.2.2.1,.val tInt a.2.2.1.2.2.2.1]),(27,.row tCommit 42 0),(28,.row (.slice tInt) 39 0)]⟩
def Qk (f g:Nat):oN f (g+1)=mJ true (sm aR) (oN f g) (fW f f):=Φ
def MY (f g:Nat):fW f (g+1)=kc true (sm aR) (iJ f g f):=Φ
def MW (f g j:Nat):iJ f g (j+1)=j9 true (sm aR) (k9 f g j f) (fW f g):=Φ
def MU (f j g l:Nat):k9 f j g (l+1)=j8 true (sm aR) (k9 f j g l) (iJ f j g):=Φ
variable{C:bP ag.den}
def MV (g j:Nat)(r:fW FU g=mp4 aR C){f:cr ag.den}(l:iJ FU g j=mp5 aR f):∀n,k9 FU g j n=mp7 aR (iI C f n):=cA Φ λp _ h=>(MU FU g j p).trans (by rw[h,l];funext _ _ _ _ _ _ _;simp only[j8,dQ,fy,ss])
def MX (g:Nat)(f:fW FU g=mp4 aR C):∀n,iJ FU g n=mp5 aR (iK C n):=cA Φ λj _ h=>(MW FU g j).trans (by rw[MV g j f h FU,f];funext _ _ _ _ _;simp only[j9,dQ,fy,ss])
def MZ:∀n,fW FU n=mp4 aR (iL n):=cA Φ λf _ h=>(MY FU f).trans (by rw[MX f h FU];funext _ _ _ _;simp only[kc,dQ,fy,ss])
def Ql:∀n,oN FU n=mp5 aR (j6 n):=cA Φ λf _ h=>(Qk FU f).trans (by rw[h,MZ FU];funext _ _ _ _ _;simp only[mJ,dQ,fy,ss])
def Zv:am prog 36 (Kr):=evX func36 (S:=Ks) aG (ah ⟨HL,Wk,OX,OH,acF,awN⟩) (tys:=[ag]) (λf x=>wa true (sm aR) (oN f f) x.1 x.2.1) (λx=>by show _=Option.map aR _;rw[Ql FU];simp only[wa,mK,dQ,fy,ss])
def EV (m:Bool)(K:ag.den→Option p)(l:Υ)(f:(List Int)):Option p:=cl m (.slice tInt) (pm l f) λr1=>cl m ag (mK l r1) λr2=>K r2
def q9 (l:Υ)(f:(List Int)):Option ag.den:=EV false some l f
def OD:Ent:=evE (.cons (.slice tCommit) (.cons (.slice tInt) .unit)) aR (zero ag) λx=>q9 x.1 x.2.1
def akZ:Par:=⟨bM.tab,aA [(37,OG),(36,Kr)],λ_=>look [],λ_=>look []⟩
def Ys:am prog 11 (OD):=evX func11 (S:=akZ) aG (ah ⟨Wk,Zv,awN⟩) (tys:=[ag]) (λf x=>EV true (sm aR) x.1 x.2.1) (λx=>by show _=Option.map aR _;simp only[EV,q9,ss])
def Ef (m:Bool)(K:Str→Option p)(f:Int)(x:Int):Option p:=let a:=cond (f=1) true (f=3);nq m [2,0] (!f=1) (cl m tInt (mod2_ev x 5) (λr1=>cond (r1=0) (cond a (K [77]) (K [102])) (cond (r1=1) (cond a (K [78]) (K [103])) (cond (r1=2) (cond a (K [84]) (K [120])) (cond (r1=3) (cond a (K [65,98,49]) (K [121])) (cond a (K [81]) (K [107,95,50])))))))
def jL (f:Int)(x:Int):Option Str:=Ef false some f x
def kT (r:Str):AV :=.val .str r
def Mm:Ent:=evE (.cons tInt (.cons tInt .unit)) kT (zero .str) λx=>jL x.1 x.2.1
def Eg:Par:=⟨bM.tab,aA [(18,Hl)],λ_=>look [],λ_=>look []⟩
def Wx:am prog 21 (Mm):=evX func21 (S:=Eg) aG (ah ⟨mod2_x,awN⟩) (tys:=[.str]) (λf x=>Ef true (sm kT) x.1 x.2.1) (λx=>by show _=Option.map kT _;simp only[Ef,jL,ss])
def vI (m:Bool)(K:Str→Option p)(x:Int):Option p:=cl m tInt (mod2_ev x 5) λr1=>cond (r1=0) (K [32]) (cond (r1=1) (K [10]) (cond (r1=2) (K [32,35,32,110,111,116,101,10]) (cond (r1=3) (K []) (K [9,32,32]))))
def mf (x:Int):Option Str:=vI false some x
def JZ:Ent:=evE (.cons tInt .unit) kT (zero .str) λx=>mf x.1
def YT:am prog 24 (JZ):=evX func24 (S:=Eg) aG (ah ⟨mod2_x,awN⟩) (tys:=[.str]) (λf x=>vI true (sm kT) x.1) (λx=>by show _=Option.map kT _;simp only[vI,mf,ss])
def NL (m:Bool)(K:Str→Option p)(x:Int):Option p:=cl m tInt (mod2_ev x 26) λr1=>ck (!(26:Int)=0) (cl m tInt (mod2_ev (w64 (Int.tdiv x 26)) 25) (λr2=>K (List.map (λn : Int=>UInt8.ofNat n.toNat) [IntKind.wrap .u8 (w64 ((97:Int)+r1)),IntKind.wrap .u8 (w64 ((98:Int)+r2))])))
def sk (x:Int):Option Str:=NL false some x
def adT:Ent:=evE (.cons tInt .unit) kT (zero .str) λx=>sk x.1
def amR:am prog 25 (adT):=evX func25 (S:=Eg) aG (ah ⟨mod2_x,awN⟩) (tys:=[.str]) (λf x=>NL true (sm kT) x.1) (λx=>by show _=Option.map kT _;simp only[NL,sk,ss])
abbrev eP (p:Type):=Int→ag.den→(List Int)→Int→Option p
abbrev Jr (p:Type):=Int→Int→ag.den→(List Int)→Option p
def iS (m:Bool)(K:(List Int)→Option p)(g:eP p):Jr p:=λf i s out=>fz m tInt (w64 (i+1)) λj=>g f s out j
def amP (g:ag.den)(f:Int):Bool:=(gu g f).isSome
def amQ (g:ag.den)(f:Int):Int:=(gu g f).getD (zero tInt)
def iR (m:Bool)(K:(List Int)→Option p)(g:eP p):eP p:=λf s out i=>let b:=bd i s.1.length;let a:=ix ae s.1 i;cond (i<il s.1) (ck b (nq m [2,2] (a.2.1=1) (nq m [2] (a.2.1=1&&!f=0) (nm m 2 (a.2.1=1&&!f=0) b (nq m [2,2] (a.2.1=1&&!f=0) (nm m 2 (a.2.1=1&&!f=0) (amP s a.1) (nq m [3] (a.2.1=1&&!f=0) (nm m 0 (a.2.1=1) (ii (a.2.1=1&&!f=0)) (nq m [1] (a.2.1=1) (cond (cond (a.2.1=1) (cond (f=0) true (amQ s a.1=f)) false) (ck b (ck (lm (List.length out+List.length ([a.1]:List Int))) (fz m (.slice tInt) (out++[a.1]) (λj=>iS m K g f i s j)))) (iS m K g f i s out))))))))))) (K out)
def pb (m:Bool)(K:(List Int)→Option p)(g:eP p)(s:ag.den)(f:Int):Option p:=g f s [] 0
def jH:Nat→eP (List Int):=lp (λ_ _ _ _=>none) λf=>iR false some f
def bi (s:ag.den)(f:Int):Option (List Int):=pb false some (jH FU) s f
def uU:Nw:=nwE tInt (.cons ag (.cons tInt .unit)) 3 λx=>bi x.1 x.2.1
def pH:MS:=⟨1,[(0,[.dat (.slice ae)])],[(1,.dat tInt),(2,.keep),(5,.own tInt 3),(6,.dat tInt)]⟩
def DW:Par:=⟨bM.tab,aA [(20,AK)],λ_=>look [(4,pH)],λ_=>look [(3,pH)]⟩
def Sm:KT:=acU bM.tab [.tmp 4] tInt 3
def DX:=h10 DW f17
def jG (f n:Nat):eP AV:=λg s out i=>aI 0 pH (DX f 0 [1,1,0,1,0,0]) (aj 0 (aP 0 none (DX f 0 [1,1,1]) Sm)) n ⟨mkE 47 [(1,.val tInt g),(2,.box 0 0),(5,.own 1 0 tInt out),(6,.val tInt i)],mkH 2 [(0,.box [.val (.slice ae) s.1]),(1,.row tInt 3 0)]⟩
def Js (f g:Nat):jG f (g+1)=iR true (sm aS) (jG f g):=Φ
def Jt:∀n,jG FU n=mp4 aS (jH n):=cA Φ λf _ h=>(Js FU f).trans (by rw[h];funext _ _ _ _;simp only[iR,iS,ss])
def DV:Wp prog 17 (uU):=nwX func17 (S:=DW) aG (ah ⟨EE,awN⟩) (λf x=>pb true (sm aS) (jG f f) x.1 x.2.1) (λx=>by show _=Option.map aS _;rw[Jt FU];simp only[pb,bi,iS,ss])
def Es (m:Bool)(K:Int→Option p)(l:(List Int))(x:Int):Option p:=cond (il l=0) (K 0) (cl m tInt (mod2_ev x (il l)) (λr1=>ck (bd r1 l.length) (K (ix tInt l r1))))
def bw (l:(List Int))(x:Int):Option Int:=Es false some l x
def Nc:Ent:=evE (.cons (.slice tInt) (.cons tInt .unit)) aO (zero tInt) λx=>bw x.1 x.2.1
def Xg:am prog 19 (Nc):=evX func19 (S:=Eg) aG (ah ⟨mod2_x,awN⟩) (tys:=[tInt]) (λf x=>Es true (sm aO) x.1 x.2.1) (λx=>by show _=Option.map aO _;simp only[Es,bw,ss])
def Er (m:Bool)(K:aW.den→Option p)(s:ag.den)(id:Int)(field:Int):Option p:=ce m (.slice aM) (cj s id field) (iX s id field) λr1=>cond (il r1=0) (K (0,false,[],0,())) (ck (bd 0 r1.length) (K (ix aM r1 0).2.1))
def gt (s:ag.den)(id:Int)(field:Int):Option aW.den:=Er false some s id field
def Xb:Ent:=evE (.cons ag (.cons tInt (.cons tInt .unit))) dn (zero aW) λx=>gt x.1 x.2.1 x.2.2.1
def ahw:am prog 23 (Xb):=evX func23 (S:=XM) aG (ah ⟨OH,awN⟩) (tys:=[aW]) (λf x=>Er true (sm dn) x.1 x.2.1 x.2.2.1) (λx=>by show _=Option.map dn _;simp only[Er,gt,ss])
def vR (m:Bool)(K:aW.den→Option p)(v:aW.den)(s:ag.den)(x:Int):Option p:=let b:=w64 (Int.tdiv x 4);let a:=w64 (Int.tdiv x 6);nq m [2,2,1] (v.1≥5) (cond (cond (v.1≥5) (v.1≤9) false) (cl m tInt (mod2_ev x 4) (λr1=>cond (r1=0) (K (5,false,[],0,())) (cond (r1=1) (K (6,false,[],0,())) (cond (r1=2) (ck (!(4:Int)=0) (cl m .str (jL 3 b) (λr2=>K (9,false,r2,0,())))) (cl m (.slice tInt) (bi s 3) (λr3=>ck (!(4:Int)=0) (cl m tInt (bw r3 b) (λr4=>cond (!r4=0) (K (9,false,[],r4,())) (K (7,false,[],0,())))))))))) (cond (v.1=21) (cl m tInt (mod2_ev x 2) (λr5=>cond (r5=0) (K (21,false,[42],0,())) (K (21,false,[60],0,())))) (cond (v.1=20) (cl m .str (jL 2 x) (λr6=>K (20,false,r6,0,()))) (cl m tInt (mod2_ev x 6) (λr7=>cond (r7=0) (K (10,false,[51],0,())) (cond (r7=1) (K (11,false,[34,115,34],0,())) (cond (r7=2) (cl m (.slice tInt) (bi s 4) (λr8=>ck (!(6:Int)=0) (cl m tInt (bw r8 a) (λr9=>cond (!r9=0) (K (12,false,[],r9,())) (K (12,false,[122],0,())))))) (cond (r7=3) (cl m (.slice tInt) (bi s 2) (λr10=>ck (!(6:Int)=0) (cl m tInt (bw r10 a) (λr11=>cond (!r11=0) (ck (!(6:Int)=0) (cl m tInt (mod2_ev a 3) (λr12=>K (16,decide (r12=0),[],r11,())))) (K (16,false,[77,46,102],0,())))))) (cond (r7=4) (K (10,false,[49,50],0,())) (K (13,false,[],0,())))))))))))
def fp (v:aW.den)(s:ag.den)(x:Int):Option aW.den:=vR false some v s x
def Ke:Ent:=evE (.cons aW (.cons ag (.cons tInt .unit))) dn (zero aW) λx=>fp x.1 x.2.1 x.2.2.1
def Zf:Par:=⟨bM.tab,TY [(18,Hl),(21,Mm),(19,Nc)] [] [] [] [(17,uU)],λ_=>look [],λ_=>look []⟩
def Ze:am prog 22 (Ke):=evX func22 (S:=Zf) aG (Ka ⟨mod2_x,Wx,Xg,awN⟩ trivial trivial trivial ⟨DV,awN⟩) (tys:=[aW]) (λf x=>vR true (sm dn) x.1 x.2.1 x.2.2.1) (λx=>by show _=Option.map dn _;simp only[vR,fp,ss])
abbrev cJ (p:Type):=Λ→Nat→Int→Λ→Option p
abbrev jR (p:Type):=Λ→Int→Nat→Int→Λ→Option p
abbrev MA (p:Type):=Λ→Int→Int→Nat→Int→Λ→Option p
abbrev PS (p:Type):=Λ→Int→Nat→Λ→Option p
def mv (m:Bool)(K:bB→Option p)(g:jR p):cJ p:=λl f i out=>cond (i<il l) (fz m tInt (ni f) (λj=>g l i f j out)) (K ((List.take f out).drop 0))
def mw (m:Bool)(K:bB→Option p)(g:cJ p):PS p:=λl i f out=>fz m tInt (w64 (i+1)) λj=>g l f j out
def fh (m:Bool)(K:bB→Option p)(r:cJ p):MA p:=λl i g f j out=>let a:=List.take (0+f) out;ck (0≤j&&j≤ni f) (ck (lm (List.length ([]:List aa.den)+List.length (a.drop (0+Int.toNat j)))) (ck (0≤g&&g≤ni f) (ck (bd i l.length) (ck (lm (0+Int.toNat g+List.length ([ix aa l i]:List aa.den))) (ck (lm (0+Int.toNat g+List.length ([ix aa l i]:List aa.den)+List.length (([]:List aa.den)++a.drop (0+Int.toNat j)))) (fm m (0+Int.toNat g+List.length ([ix aa l i]:List aa.den)+List.length (([]:List aa.den)++a.drop (0+Int.toNat j))) (λJ=>fz m (.slice aa) (List.take (0+Int.toNat g+List.length ([ix aa l i]:List aa.den)) (List.take (0+Int.toNat g) out++[ix aa l i])++(([]:List aa.den)++a.drop (0+Int.toNat j))) λC=>mw m K r l i J C)))))))
def mt (m:Bool)(K:bB→Option p)(J:jR p)(C:cJ p):jR p:=λl i j r out=>let g:=w64 (r-1);let f:=ix aa l i;let e:=List.getD out (0+Int.toNat r) (zero aa);let d:=decide (r>0);let c:=bd i l.length;let b:=List.getD out (0+Int.toNat g) (zero aa);let a:Bool:=cond (r<ni j) (e.1=f.1) false;nq m [2] (r>0) (nm m 2 (r>0) (0≤w64 (r-1)&&w64 (r-1)<ni j) (nq m [2,2,2] (r>0) (nm m 2 (r>0) (0≤w64 (r-1)&&w64 (r-1)<ni j) (nq m [2,2] (r>0) (nm m 2 (r>0) c (nq m [2,2] (r>0) (nm m 2 (r>0) c (nq m [2,2] (r>0) (ck (ii d&&(ii d&&(ii d&&(ii d&&true)))&&true) (nq m [2,1] (r>0) (cond (cond (r>0) (!vj b.1 b.2.1 f.1 f.2.1) false) (fz m tInt g (λR=>J l i j R out)) (nm m 2 (r<ni j) (0≤r&&r<ni j) (nq m [2,2] (r<ni j) (nm m 2 (r<ni j) c (nq m [2,2,3,1] (r<ni j) (nm m 2 a (0≤r&&r<ni j) (nq m [2,2] a (nm m 2 a c (nq m [2,2,3,1] a (cond (cond a (e.2.1=f.2.1) false) (fz m tInt (w64 (r+1)) (λP=>fh m K C l i r j P out)) (fh m K C l i r j r out)))))))))))))))))))))
def vP (m:Bool)(K:bB→Option p)(f:cJ p)(l:Λ):Option p:=f l 0 0 []
def jT (g:cJ bB):Nat→jR bB:=lp (λ_ _ _ _ _=>none) λf=>mt false some f g
def oK:Nat→cJ bB:=lp (λ_ _ _ _=>none) λf=>mv false some (jT f FU)
def my (l:Λ):Option bB:=vP false some (oK FU) l
def Kb:Ent:=evE (.cons (.slice aa) .unit) bG (zero (.slice aa)) λx=>my x.1
def jS:MS:=⟨0,[],[(0,.dat (.slice aa)),(3,.mut aa 58),(4,.dat tInt)]⟩
def Dt:MS:=⟨0,[],[(0,.dat (.slice aa)),(3,.mut aa 58),(4,.dat tInt),(5,.dat tInt)]⟩
def MB:MS:=⟨0,[],[(0,.dat (.slice aa)),(3,.mut aa 58),(4,.dat tInt),(5,.dat tInt),(6,.dat tInt)]⟩
def Kc:Par:=⟨bM.tab,aA [(48,xo)],λ_=>look [(11,MB),(4,jS)],λ_=>look [(3,jS),(6,Dt)]⟩
def Kd:KT:=br bM.tab [.tmp 2] [(.slice aa)]
def jd:=h10 Kc f28
def jU (g n:Nat):cJ AV:=λl f i out=>aI 0 jS (jd g 0 [1,1,0,1,0,0]) (aj 0 (aP 0 none (jd g 0 [1,1,1]) Kd)) n ⟨mkE 96 [(0,.val (.slice aa) l),(3,.msl 0 0 0 f),(4,.val tInt i)],mkH 1 [(0,.mrow aa 58 0 out)]⟩
def oJ (f p n:Nat):jR AV:=λl i g j out=>aI 0 Dt (jd f 0 [1,1,0,1,0,0,1,0,0,1,0,0,0]) (aj 2 (aP 0 none (jd f 0 [1,1,0,1,0,0,1,0,0,1,1]) (aj 1 (aP 0 (some jS) (jd f 0 [1,1,0,1,0,0,1,1]) (kLp 0 jS (jd f 0 [1,1,0,1,0,0]) (aj 0 (aP 0 none (jd f 0 [1,1,1]) Kd)) p))))) n ⟨mkE 96 [(0,.val (.slice aa) l),(3,.msl 0 0 0 g),(4,.val tInt i),(5,.val tInt j)],mkH 1 [(0,.mrow aa 58 0 out)]⟩
def PX (f g:Nat):jU f (g+1)=mv true (sm bG) (oJ f g f):=Φ
def PU (f g j:Nat):oJ f g (j+1)=mt true (sm bG) (oJ f g j) (jU f g):=Φ
def PW (j:Nat){f:cJ bB}(g:jU FU j=mp4 bG f):∀n,oJ FU j n=mp5 bG (jT f n):=cA Φ λl _ h=>(PU FU j l).trans (by rw[h,g];funext _ _ _ _ _;simp only[mt,fh,mw,ss])
def PY:∀n,jU FU n=mp4 bG (oK n):=cA Φ λf _ h=>(PX FU f).trans (by rw[PW f h FU];funext _ _ _ _;simp only[mv,fh,mw,ss])
def Zd:am prog 28 (Kb):=evX func28 (S:=Kc) aG (ah ⟨OL,awN⟩) (tys:=[(.slice aa)]) (λf x=>vP true (sm bG) (jU f f) x.1) (λx=>by show _=Option.map bG _;rw[PY FU];simp only[vP,my,fh,mw,ss])
abbrev kH (p:Type):=Int→(List Int)→aB.den→Λ→Int→Option p
abbrev rg (p:Type):=Int→(List Int)→Int→Λ→aB.den→Λ→Int→Option p
abbrev ags (p:Type):=Int→(List Int)→Int→Λ→Int→aB.den→Λ→Option p
def BQ (m:Bool)(K:bB→Option p)(f:rg p):kH p:=λid r1 g out i=>nq m [2,1] (i<il ([id]++r1)) (cond (cond (i<il ([id]++r1)) (i<12) false) (ck (bd i ([id]++r1).length) (cl m (.slice aa) (GU g.1 (ix tInt ([id]++r1) i)) (λr2=>f id r1 i r2 g out 0))) (K out))
def xn (m:Bool)(K:bB→Option p)(f:rg p):ags p:=λid r1 i r2 j l out=>fz m tInt (w64 (j+1)) λg=>f id r1 i r2 l out g
def BN (m:Bool)(K:bB→Option p)(f:rg p)(j:kH p):rg p:=λid r1 i r2 C out g=>let a:=bd g r2.length;cond (g<il r2) (ck a (cond (!(ix aa r2 g).2.1=1) (ck a (ck (lm (List.length out+List.length ([ix aa r2 g]:List aa.den))) (fz m (.slice aa) (out++[ix aa r2 g]) (λl=>xn m K f id r1 i r2 g C l)))) (xn m K f id r1 i r2 g C out))) (fz m tInt (w64 (i+1)) (λr=>j id r1 C out r))
def OJ (m:Bool)(K:bB→Option p)(f:kH p)(g:aB.den)(id:Int):Option p:=cl m (.slice tInt) (nK g id) λr1=>ck (lm (List.length ([id]:List Int)+List.length r1)) (f id r1 g [] 0)
def vg (g:kH bB):Nat→rg bB:=lp (λ_ _ _ _ _ _ _=>none) λf=>BN false some f g
def BP:Nat→kH bB:=lp (λ_ _ _ _ _=>none) λf=>BQ false some (vg f FU)
def pn (f:aB.den)(id:Int):Option bB:=OJ false some (BP FU) f id
def agx:Ent:=evE (.cons aB (.cons tInt .unit)) bG (zero (.slice aa)) λx=>pn x.1 x.2.1
def IV:MS:=⟨1,[(0,[.dat (.slice aa)])],[(2,.keep),(5,.dat (.slice tInt)),(6,.own aa 58),(7,.dat tInt)]⟩
def IU:MS:=⟨1,[(0,[.dat (.slice aa)])],[(2,.keep),(5,.dat (.slice tInt)),(6,.own aa 58),(7,.dat tInt),(8,.dat (.slice aa)),(9,.dat tInt)]⟩
def agy:Par:=⟨bM.tab,aA [(46,LU),(47,alo)],λ_=>look [(9,IU)],λ_=>look [(4,IV),(8,IU)]⟩
def CZ:=h10 agy f27
def vi (f n:Nat):kH AV:=λid r1 g out i=>aI 0 IV (CZ f 0 [1,1,1,0,1,0,0]) (aj 0 (aP 0 none (CZ f 0 [1,1,1,1]) adB)) n ⟨mkE 53 [(2,.box 0 0),(5,.val (.slice tInt) ([id]++r1)),(6,.own 1 0 aa out),(7,.val tInt i)],mkH 2 [(0,.box [.val (.slice aa) g.1]),(1,.row aa 58 0)]⟩
def BM (f l n:Nat):rg AV:=λid r1 i r2 j out g=>aI 0 IU (CZ f 0 [1,1,1,0,1,0,0,1,0,0,1,1,0,0]) (aj 2 (aj 1 (aP 0 none (CZ f 0 [1,1,1,0,1,0,0,1,1]) (kLp 0 IV (CZ f 0 [1,1,1,0,1,0,0]) (aj 0 (aP 0 none (CZ f 0 [1,1,1,1]) adB)) l)))) n ⟨mkE 53 [(2,.box 0 0),(5,.val (.slice tInt) ([id]++r1)),(6,.own 1 0 aa out),(7,.val tInt i),(8,.val (.slice aa) r2),(9,.val tInt g)],mkH 2 [(0,.box [.val (.slice aa) j.1]),(1,.row aa 58 0)]⟩
def agv (f g:Nat):vi f (g+1)=BQ true (sm bG) (BM f g f):=Φ
def agt (f g j:Nat):BM f g (j+1)=BN true (sm bG) (BM f g j) (vi f g):=Φ
def agu (j:Nat){f:kH bB}(g:vi FU j=mp5 bG f):∀n,BM FU j n=mp7 bG (vg f n):=cA Φ λl _ h=>(agt FU j l).trans (by rw[h,g];funext _ _ _ _ _ _ _;simp only[BN,xn,ss])
def agw:∀n,vi FU n=mp5 bG (BP n):=cA Φ λf _ h=>(agv FU f).trans (by rw[agu f h FU];funext _ _ _ _ _;simp only[BQ,xn,ss])
def anX:am prog 27 (agx):=evX func27 (S:=agy) aG (ah ⟨abv,aor,awN⟩) (tys:=[(.slice aa)]) (λf x=>OJ true (sm bG) (vi f f) x.1 x.2.1) (λx=>by show _=Option.map bG _;rw[agw FU];simp only[OJ,pn,xn,ss])
abbrev fV (p:Type):=Nat→Int→Λ→Option p
abbrev MP (p:Type):=Int→Nat→Λ→Option p
def jY (m:Bool)(K:bB→Option p)(g:fV p):MP p:=λi f out=>fz m tInt (w64 (i+1)) λj=>g f j out
def jX (m:Bool)(K:bB→Option p)(g:fV p):fV p:=λf i out=>let a:=List.getD out (0+Int.toNat i) (zero aa);cond (i<ni f) (ck (0≤i&&i<ni f) (cond (a.2.1=2) (ck (0≤i&&i<ni f) (fz m (.slice aa) (List.set out (0+Int.toNat i) (a.1,a.2.1,(0,false,[],0,()),())) (λj=>jY m K g i f j))) (jY m K g i f out))) (K ((List.take f out).drop 0))
def rQ (m:Bool)(K:bB→Option p)(f:fV p)(l:Λ):Option p:=ck (lm (0+List.length l)) (fm m (0+List.length l) (λj=>fz m (.slice aa) (List.take 0 []++l) λg=>f j 0 g))
def k7:Nat→fV bB:=lp (λ_ _ _=>none) λf=>jX false some f
def fx (l:Λ):Option bB:=rQ false some (k7 FU) l
def F2:Ent:=evE (.cons (.slice aa) .unit) bG (zero (.slice aa)) λx=>fx x.1
def rR:MS:=⟨0,[],[(3,.mut aa 58),(4,.dat tInt)]⟩
def F3:Par:=⟨Pw.tab,aA [],λ_=>look [(4,rR)],λ_=>look [(3,rR)]⟩
def Up:KT:=br Pw.tab [.tmp 2] [(.slice aa)]
def F4:=h10 F3 f26
def k6 (g n:Nat):fV AV:=λf i out=>aI 0 rR (F4 g 0 [1,1,0,1,0,0]) (aj 0 (aP 0 none (F4 g 0 [1,1,1]) Up)) n ⟨mkE 26 [(3,.msl 0 0 0 f),(4,.val tInt i)],mkH 1 [(0,.mrow aa 58 0 out)]⟩
def MQ (f g:Nat):k6 f (g+1)=jX true (sm bG) (k6 f g):=Φ
def MR:∀n,k6 FU n=mp3 bG (k7 n):=cA Φ λf _ h=>(MQ FU f).trans (by rw[h];funext _ _ _;simp only[jX,jY,ss])
def Uo:am prog 26 (F2):=evX func26 (S:=F3) Pv (ah trivial) (tys:=[(.slice aa)]) (λf x=>rQ true (sm bG) (k6 f f) x.1) (λx=>by show _=Option.map bG _;rw[MR FU];simp only[rQ,fx,jY,ss])
abbrev dP (p:Type):=Int→(List Int)→(List Int)→(List Int)→Int→Bool→Lb'→Int→Int→Int→Int→Λ→Option p
abbrev kS (p:Type):=Int→Int→Int→Int→Int→Int→Option p
abbrev fP (p:Type):=Λ→Option p
abbrev kR (p:Type):=Int→Int→Bool→Str→Int→Option p
def rl (m:Bool)(K:bB→Option p)(C:kS p)(r:dP p):dP p:=λP r2 r3 r4 r5 U J l j f g R=>cond U (cl m tInt (bw r2 f) (λr6=>cl m tInt (gu (J,()) r6) λr7=>nq m [2,0] (!r7=5) (cond (cond (r7=5) true (r7=0)) (cl m tInt (bw r4 f) (λr8=>C r8 2 l j f g)) (C r6 r7 l j f g)))) (cond (r5=2) (fz m .bool (decide (r5=2)) (λT=>r P r2 r3 r4 r5 T J l j f g R)) (fz m .bool (decide (r5=3)) (λT=>r P r2 r3 r4 r5 T J l j f g R)))
def oh (m:Bool)(K:bB→Option p)(f:fP p):kS p:=λid l J C r g=>cl m .str (jL l g) λr9=>ck (lm (List.length ([]:List aa.den)+List.length ([(id,3,(0,false,r9,0,()),())]:List aa.den))) (fz m (.slice aa) ([]++[(id,3,(0,false,r9,0,()),())]) (λj=>f j))
def og (m:Bool)(K:bB→Option p)(g:fP p)(J:kR p):dP p:=λf r2 r3 r4 r5 R l U T C j P=>let e:=bw r2 C;let d:=bi (l,()) 4;let c:=bi (l,()) 1;let b:=w64 (Int.tdiv j 2);let a:=bw r3 C;cond R (cl m tInt a (λr10=>cl m aW (gt (l,()) r10 4) λr11=>cl m aW (fp r11 (l,()) j) λr12=>ck (lm (List.length ([]:List aa.den)+List.length ([(r10,4,r12,())]:List aa.den))) (fz m (.slice aa) ([]++[(r10,4,r12,())]) (λr=>g r)))) (cond (r5=4) (cl m tInt e (λr13=>cl m tInt (mod2_ev j 3) λr14=>ck (!(3:Int)=0) (cl m .str (mf (w64 (Int.tdiv j 3))) (λr15=>ck (lm (List.length ([]:List aa.den)+List.length ([(r13,w64 ((8:Int)+r14),(0,false,r15,0,()),())]:List aa.den))) (fz m (.slice aa) ([]++[(r13,w64 ((8:Int)+r14),(0,false,r15,0,()),())]) (λr=>g r)))))) (cond (r5=5) (cl m tInt (bw r4 C) (λr16=>cl m (.slice tInt) c λr17=>cl m tInt (bw r17 j) λr18=>ck (!(2:Int)=0) (cl m .str (sk b) (λr19=>ck (lm (List.length ([]:List aa.den)+List.length ([(r16,2,(0,false,r19,r18,()),())]:List aa.den))) (fz m (.slice aa) ([]++[(r16,2,(0,false,r19,r18,()),())]) (λr=>g r)))))) (cond (r5=6) (cl m tInt a (λr20=>cl m tInt (bw r3 j) λr21=>cl m aW (gt (l,()) r21 2) λr22=>ck (lm (List.length ([]:List aa.den)+List.length ([(r20,2,r22,())]:List aa.den))) (fz m (.slice aa) ([]++[(r20,2,r22,())]) (λr=>g r)))) (cond (r5=7) (cl m tInt a (λr23=>cl m aW (gt (l,()) r23 2) λr24=>cl m (.slice aa) (pn (P,()) r23) λr25=>cl m (.slice aa) (fx r25) λr26=>ck (lm (List.length ([]:List aa.den)+List.length r26)) (cl m aW (gt (l,()) r23 4) (λr27=>cl m aW (fp r27 (l,()) j) λr28=>ck (lm (List.length ([]++r26)+List.length ([(w64 (f+1),1,(5,false,[],0,()),()),(w64 (f+1),2,r24,()),(w64 (f+1),4,r28,())]:List aa.den))) (fz m (.slice aa) ([]++r26++[(w64 (f+1),1,(5,false,[],0,()),()),(w64 (f+1),2,r24,()),(w64 (f+1),4,r28,())]) (λr=>g r)))))) (cond (r5=8) (cl m (.slice tInt) c (λr29=>cl m tInt (bw r29 C) λr30=>cl m .str (sk j) λr31=>cl m .str (jL 2 j) λr32=>ck (!(2:Int)=0) (cl m aW (fp (0,false,[],0,()) (l,()) b) (λr33=>ck (lm (List.length ([]:List aa.den)+List.length ([(w64 (f+1),1,(2,false,[],0,()),()),(w64 (f+1),2,(0,false,r31,r30,()),()),(w64 (f+1),3,(0,false,r32,0,()),()),(w64 (f+1),8,(0,false,[10],0,()),()),(w64 (f+1),9,(0,false,[32],0,()),()),(w64 (f+2),1,(5,false,[],0,()),()),(w64 (f+2),2,(1,false,[],w64 (f+1),()),()),(w64 (f+2),4,(5,false,[],0,()),()),(w64 (f+3),1,(5,false,[],0,()),()),(w64 (f+3),2,(2,false,[],w64 (f+1),()),()),(w64 (f+3),4,r33,())]:List aa.den))) (fz m (.slice aa) ([]++[(w64 (f+1),1,(2,false,[],0,()),()),(w64 (f+1),2,(0,false,r31,r30,()),()),(w64 (f+1),3,(0,false,r32,0,()),()),(w64 (f+1),8,(0,false,[10],0,()),()),(w64 (f+1),9,(0,false,[32],0,()),()),(w64 (f+2),1,(5,false,[],0,()),()),(w64 (f+2),2,(1,false,[],w64 (f+1),()),()),(w64 (f+2),4,(5,false,[],0,()),()),(w64 (f+3),1,(5,false,[],0,()),()),(w64 (f+3),2,(2,false,[],w64 (f+1),()),()),(w64 (f+3),4,r33,())]) (λr=>g r)))))) (cond (r5=9) (cl m (.slice tInt) d (λr34=>ck (lm (r4.length+r34.length)) (cl m tInt (bw (r4++r34) C) (λr35=>cl m (.slice aa) (pn (P,()) r35) λr36=>cl m (.slice aa) (fx r36) λr37=>g r37)))) (cond (r5=10) (cl m (.slice tInt) d (λr38=>cl m tInt (bw r38 C) λr39=>cl m aW (gt (l,()) r39 2) λr40=>cond (!r40.2.2.2.1=0) (cl m .str (sk j) (λr41=>J r39 r40.1 r40.2.1 r41 r40.2.2.2.1)) (J r39 r40.1 r40.2.1 r40.2.2.1 r40.2.2.2.1))) (cond (r5=11) (cl m tInt e (λr42=>cl m (.slice aa) (pn (P,()) r42) λr43=>g r43)) (g [])))))))))
def od (m:Bool)(K:bB→Option p):fP p:=λw=>cl m (.slice aa) (my w) λr44=>K r44
def oe (m:Bool)(K:bB→Option p)(r:fP p):kR p:=λr39 l j g f=>ck (lm (List.length ([]:List aa.den)+List.length ([(r39,2,(l,j,g,f,()),())]:List aa.den))) (fz m (.slice aa) ([]++[(r39,2,(l,j,g,f,()),())]) (λC=>r C))
def vq (m:Bool)(K:bB→Option p)(j:dP p)(s:ag.den)(d:bm.den)(g:Int):Option p:=ce m aB (stG s) (bh s) λr1=>cl m (.slice tInt) (bi s 0) λr2=>cl m (.slice tInt) (bi s 5) λr3=>cl m (.slice tInt) (bi s 2) λr4=>cl m tInt (mod2_ev d.1 13) λr5=>cond (r5=0) (fz m .bool (decide (r5=0)) (λP=>fz m (.slice ae) s.1 λJ=>fz m tInt d.1 λC=>fz m tInt d.2.1 λr=>fz m tInt d.2.2.1 λl=>fz m tInt d.2.2.2.1 λf=>j g r2 r3 r4 r5 P J C r l f r1.1)) (fz m .bool (decide (r5=1)) (λP=>fz m (.slice ae) s.1 λJ=>fz m tInt d.1 λC=>fz m tInt d.2.1 λr=>fz m tInt d.2.2.1 λl=>fz m tInt d.2.2.2.1 λf=>j g r2 r3 r4 r5 P J C r l f r1.1))
def dV:fP bB:=od false some
def dW:kS bB:=oh false some dV
def iy:kR bB:=oe false some dV
def iz:dP bB:=og false some dV iy
def oa:dP bB:=rl false some dW iz
def dX (s:ag.den)(d:bm.den)(f:Int):Option bB:=vq false some oa s d f
def JJ:Ent:=evE (.cons ag (.cons bm (.cons tInt .unit))) bG (zero (.slice aa)) λx=>dX x.1 x.2.1 x.2.2.1
def OZ:MS:=⟨6,[(0,[.dat (.slice ae)]),(1,[.dat tInt,.dat tInt,.dat tInt,.dat tInt]),(5,[.dat (.slice aa)])],[(2,.dat tInt),(3,.keep),(4,.keep),(7,.keep),(8,.dat (.slice tInt)),(9,.dat (.slice tInt)),(10,.own tInt 3),(11,.own aa 58),(32,.dat tInt),(33,.dat .bool)]⟩
def Mc:MS:=⟨2,[(0,[.drop]),(1,[.dat tInt,.dat tInt,.dat tInt,.dat tInt])],[(4,.keep),(11,.own aa 58),(12,.dat tInt),(13,.dat tInt)]⟩
def Mb:MS:=⟨6,[(0,[.dat (.slice ae)]),(1,[.dat tInt,.dat tInt,.dat tInt,.dat tInt]),(5,[.dat (.slice aa)])],[(2,.dat tInt),(3,.keep),(4,.keep),(7,.keep),(8,.dat (.slice tInt)),(9,.dat (.slice tInt)),(10,.own tInt 3),(11,.own aa 58),(32,.dat tInt),(63,.dat .bool)]⟩
def iv:MS:=⟨0,[],[(11,.dat (.slice aa))]⟩
def Ma:MS:=⟨32,[(0,[.drop]),(1,[.drop,.drop,.drop,.drop]),(5,[.drop]),(31,[.dat tInt,.dat .bool,.dat .str,.dat tInt])],[(11,.own aa 58),(20,.dat tInt),(21,.keep)]⟩
def JK:Par:=⟨bM.tab,TY [(16,Au),(18,Hl),(19,Nc),(20,AK),(21,Mm),(23,Xb),(22,Ke),(24,JZ),(25,adT),(27,agx),(26,F2),(28,Kb)] [] [] [] [(17,uU)],λ_=>look [(9,OZ),(14,Mc),(17,Mb),(45,iv),(42,Ma)],λ_=>look []⟩
def pT:KT:=br bM.tab [.tmp 6] [(.slice aa)]
def fQ:=h10 JK f6
def td (f:Nat):dP AV:=λg r2 r3 r4 r5 P J C r p l j=>fQ f 0 [1,1,1,1,1,1,0,1,0,1] ⟨mkE 290 [(2,.val tInt g),(3,.box 0 0),(4,.box 1 0),(7,.box 5 0),(8,.val (.slice tInt) r2),(9,.val (.slice tInt) r3),(10,.own 6 0 tInt r4),(11,.own 7 0 aa []),(32,.val tInt r5),(33,.val .bool P)],mkH 8 [(0,.box [.val (.slice ae) J]),(1,.box [.val tInt C,.val tInt r,.val tInt p,.val tInt l]),(5,.box [.val (.slice aa) j]),(6,.row tInt 3 0),(7,.row aa 58 0)]⟩ (aj 0 (aP 0 (some iv) (fQ f 0 [1,1,1,1,1,1,1]) pT))
def rq (f:Nat):kS AV:=λid r p l j g=>fQ f 0 [1,1,1,1,1,1,0,1,0,1,0,1,1,1] ⟨mkE 290 [(4,.box 1 0),(11,.own 2 0 aa []),(12,.val tInt id),(13,.val tInt r)],mkH 3 [(0,.box [.unk]),(1,.box [.val tInt p,.val tInt l,.val tInt j,.val tInt g]),(2,.row aa 58 0)]⟩ (aj 0 (aP 0 (some iv) (fQ f 0 [1,1,1,1,1,1,1]) pT))
def rp (f:Nat):dP AV:=λg r2 r3 r4 r5 P J C r p l j=>fQ f 0 [1,1,1,1,1,1,0,1,0,1,1,1] ⟨mkE 290 [(2,.val tInt g),(3,.box 0 0),(4,.box 1 0),(7,.box 5 0),(8,.val (.slice tInt) r2),(9,.val (.slice tInt) r3),(10,.own 6 0 tInt r4),(11,.own 7 0 aa []),(32,.val tInt r5),(63,.val .bool P)],mkH 8 [(0,.box [.val (.slice ae) J]),(1,.box [.val tInt C,.val tInt r,.val tInt p,.val tInt l]),(5,.box [.val (.slice aa) j]),(6,.row tInt 3 0),(7,.row aa 58 0)]⟩ (aj 0 (aP 0 (some iv) (fQ f 0 [1,1,1,1,1,1,1]) pT))
def iw (f:Nat):fP AV:=λw=>fQ f 0 [1,1,1,1,1,1,1] ⟨mkE 290 [(11,.val (.slice aa) w)],mkH 0 []⟩ pT
def rn (f:Nat):kR AV:=λr39 p l j g=>fQ f 0 [1,1,1,1,1,1,0,1,0,1,1,1,1,1,1,1,1,1,1,1,1,1,1,1,1,1,0,1,1,1] ⟨mkE 290 [(11,.own 32 0 aa []),(20,.val tInt r39),(21,.box 31 0)],mkH 33 [(0,.box [.unk]),(1,.box [.unk,.unk,.unk,.unk]),(5,.box [.unk]),(6,.row tInt 3 0),(7,.row aa 58 1),(23,.row tInt 3 1),(31,.box [.val tInt p,.val .bool l,.val .str j,.val tInt g]),(32,.row aa 58 0)]⟩ (aj 0 (aP 0 (some iv) (fQ f 0 [1,1,1,1,1,1,1]) pT))
def O0 (f:Nat):td f=rl true (sm bG) (rq f) (rp f):=Φ
def Mi (f:Nat):rq f=oh true (sm bG) (iw f):=Φ
def Mg (f:Nat):rp f=og true (sm bG) (iw f) (rn f):=Φ
def Md (f:Nat):iw f=od true (sm bG):=Φ
def Me (f:Nat):rn f=oe true (sm bG) (iw f):=Φ
def rm:iw FU=mp1 bG (dV):=(Md FU).trans (by funext _;simp only[od,dV,ss])
def Mj:rq FU=mp6 bG (dW):=(Mi FU).trans (by rw[rm];funext _ _ _ _ _ _;simp only[oh,dW,ss])
def Mf:rn FU=mp5 bG (iy):=(Me FU).trans (by rw[rm];funext _ _ _ _ _;simp only[oe,iy,ss])
def Mh:rp FU=amM bG (iz):=(Mg FU).trans (by rw[rm,Mf];funext _ _ _ _ _ _ _ _ _ _ _ _;simp only[og,iz,ss])
def O1:td FU=amM bG (oa):=(O0 FU).trans (by rw[Mj,Mh];funext _ _ _ _ _ _ _ _ _ _ _ _;simp only[rl,oa,ss])
def JI:am prog 6 (JJ):=evX func6 (S:=JK) aG (Ka ⟨Rd,mod2_x,Xg,EE,Wx,ahw,Ze,YT,amR,anX,Uo,Zd,awN⟩ trivial trivial trivial ⟨DV,awN⟩) (tys:=[(.slice aa)]) (λf x=>vq true (sm bG) (td f) x.1 x.2.1 x.2.2.1) (λx=>by show _=Option.map bG _;rw[O1];simp only[vq,dX,ss])
abbrev dJ (p:Type):=Υ→Int→Int→Int→Option p
abbrev hY (p:Type):=Υ→Int→Int→Int→Int→Option p
def qz (m:Bool)(K:Int→Option p)(g:hY p):dJ p:=λl f i x=>g l f i x 0
def uo (m:Bool)(K:Int→Option p)(g:hY p):dJ p:=λl f x i=>let b:=bd i l.length;let a:=ix tCommit l i;cond (i<il l) (ck b (ck (0≤(20:Int)) (cond (aV .i64 a.1 20=f) (ck b (fz m tInt (uu x a.1) (λj=>qz m K g l f i j))) (qz m K g l f i x)))) (K x)
def qy (m:Bool)(K:Int→Option p)(g:hY p):hY p:=λl f i r x=>fz m tInt (w64 (r+1)) λj=>g l f i x j
def up (m:Bool)(K:Int→Option p)(g:dJ p):dJ p:=λl f i x=>fz m tInt (w64 (i+1)) λj=>g l f x j
def um (m:Bool)(K:Int→Option p)(g:hY p)(r:dJ p):hY p:=λl f i x j=>let b:=bd i l.length;let a:=ix tCommit l i;let d:=ix aa a.2.2.2.2.1 j;let c:=bd j a.2.2.2.2.1.length;ck b (cond (j<il a.2.2.2.2.1) (ck b (ck c (ck (0≤(20:Int)) (cond (aV .i64 d.1 20=f) (ck b (ck c (fz m tInt (uu x d.1) (λC=>qy m K g l f i j C)))) (qy m K g l f i j x))))) (up m K r l f i x))
def EB (m:Bool)(K:Int→Option p)(g:dJ p)(l:Υ)(f:Int):Option p:=ck (0≤(20:Int)) (fz m tInt (acE .i64 f 20) (λj=>g l f j 0))
def lJ (g:dJ Int):Nat→hY Int:=lp (λ_ _ _ _ _=>none) λf=>um false some f g
def qx:Nat→dJ Int:=lp (λ_ _ _ _=>none) λf=>uo false some (lJ f FU)
def qA (l:Υ)(f:Int):Option Int:=EB false some (qx FU) l f
def Xy:Ent:=evE (.cons (.slice tCommit) (.cons tInt .unit)) aO (zero tInt) λx=>qA x.1 x.2.1
def lI:MS:=⟨0,[],[(0,.dat (.slice tCommit)),(1,.dat tInt),(5,.dat tInt),(6,.dat tInt)]⟩
def Cj:MS:=⟨0,[],[(0,.dat (.slice tCommit)),(1,.dat tInt),(5,.dat tInt),(6,.dat tInt),(7,.dat tInt)]⟩
def Xz:Par:=⟨bM.tab,aA [],λ_=>look [(7,lI),(9,Cj),(4,lI)],λ_=>look [(3,lI),(8,Cj)]⟩
def wB:=h10 Xz f43
def qw (f n:Nat):dJ AV:=λl g x i=>aI 0 lI (wB f 0 [1,1,0,1,0,0]) (aj 0 (aP 0 none (wB f 0 [1,1,1]) CB)) n ⟨mkE 65 [(0,.val (.slice tCommit) l),(1,.val tInt g),(5,.val tInt x),(6,.val tInt i)],mkH 0 []⟩
def wA (f p n:Nat):hY AV:=λl g i x j=>aI 0 Cj (wB f 0 [1,1,0,1,0,0,1,0,0,1,1,0,0]) (aj 2 (aj 1 (aP 0 (some lI) (wB f 0 [1,1,0,1,0,0,1,1]) (kLp 0 lI (wB f 0 [1,1,0,1,0,0]) (aj 0 (aP 0 none (wB f 0 [1,1,1]) CB)) p)))) n ⟨mkE 65 [(0,.val (.slice tCommit) l),(1,.val tInt g),(5,.val tInt x),(6,.val tInt i),(7,.val tInt j)],mkH 0 []⟩
def Z5 (f g:Nat):qw f (g+1)=uo true (sm aO) (wA f g f):=Φ
def Z3 (f g j:Nat):wA f g (j+1)=um true (sm aO) (wA f g j) (qw f g):=Φ
def Z4 (j:Nat){f:dJ Int}(g:qw FU j=mp4 aO f):∀n,wA FU j n=mp5 aO (lJ f n):=cA Φ λl _ h=>(Z3 FU j l).trans (by rw[h,g];funext _ _ _ _ _;simp only[um,up,qz,qy,ss])
def Z6:∀n,qw FU n=mp4 aO (qx n):=cA Φ λf _ h=>(Z5 FU f).trans (by rw[Z4 f h FU];funext _ _ _ _;simp only[uo,up,qz,qy,ss])
def ajt:am prog 43 (Xy):=evX func43 (S:=Xz) aG (ah trivial) (tys:=[tInt]) (λf x=>EB true (sm aO) (qw f f) x.1 x.2.1) (λx=>by show _=Option.map aO _;rw[Z6 FU];simp only[EB,qA,up,qz,qy,ss])
abbrev eN:=Υ
abbrev kr (p:Type):=Υ→tCommit.den→Int→Option p
def m0 (m:Bool)(K:eN→Option p)(g:kr p):kr p:=λl c f=>let d:=Int.toNat f;let b:=List.take (List.length l) l;let a:=List.take d l;nm m 2 (f<il l) (bd f l.length) (nq m [2,2,2,3,1] (f<il l) (cond (cond (f<il l) ((ix tCommit l f).1<c.1) false) (fz m tInt (w64 (f+1)) (λj=>g l c j)) (ck (0≤f&&f≤(l.length:Int)) (ck (lm (List.length ([]:List tCommit.den)+List.length (a.drop 0))) (ck (lm (List.length ([]++a.drop 0)+List.length ([c]:List tCommit.den))) (ck (0≤f&&f≤(l.length:Int)) (ck (lm (List.length ([]++a.drop 0++[c])+List.length (b.drop d))) (K ([]++a.drop 0++[c]++b.drop d)))))))))
def wL (m:Bool)(K:eN→Option p)(f:kr p)(l:Υ)(c:tCommit.den):Option p:=f l c 0
def o8:Nat→kr eN:=lp (λ_ _ _=>none) λf=>m0 false some f
def m9 (l:Υ)(c:tCommit.den):Option eN:=wL false some (o8 FU) l c
def dL (r:eN):AV :=.val (.slice tCommit) r
def K1:Ent:=evE (.cons (.slice tCommit) (.cons tCommit .unit)) dL (zero (.slice tCommit)) λx=>m9 x.1 x.2.1
def DI:MS:=⟨1,[(0,[.dat tInt,.dat (.slice tInt),.dat (.slice tInt),.dat .str,.dat (.slice aa)])],[(0,.dat (.slice tCommit)),(3,.keep),(5,.dat tInt)]⟩
def K5:Par:=⟨bM.tab,aA [],λ_=>look [],λ_=>look [(2,DI)]⟩
def K6:KT:=br bM.tab [.tmp 4] [(.slice tCommit)]
def K7:=h10 K5 f15
def oZ (f n:Nat):kr AV:=λl c g=>aI 0 DI (K7 f 0 [1,1,0,0,0]) (aj 0 (aP 0 none (K7 f 0 [1,1,1]) K6)) n ⟨mkE 37 [(0,.val (.slice tCommit) l),(3,.box 0 0),(5,.val tInt g)],mkH 1 [(0,.box [.val tInt c.1,.val (.slice tInt) c.2.1,.val (.slice tInt) c.2.2.1,.val .str c.2.2.2.1,.val (.slice aa) c.2.2.2.2.1])]⟩
def RB (f g:Nat):oZ f (g+1)=m0 true (sm dL) (oZ f g):=Φ
def RD:∀n,oZ FU n=mp3 dL (o8 n):=cA Φ λf _ h=>(RB FU f).trans (by rw[h];funext _ _ _;simp only[m0,ss])
def aaD:am prog 15 (K1):=evX func15 (S:=K5) aG (ah trivial) (tys:=[(.slice tCommit)]) (λf x=>wL true (sm dL) (oZ f f) x.1 x.2.1) (λx=>by show _=Option.map dL _;rw[RD FU];simp only[wL,m9,ss])
abbrev ST (p:Type):=Υ→Int→bm.den→(List Int)→Option p
abbrev Om (p:Type):=ag.den→Int→(List Int)→(List Int)→Str→Λ→Option p
def kB (m:Bool)(K:iQ→Option p):Om p:=λr6 r l j g f=>cl m tInt (nr r6 (r,l,j,g,f,())) λr12=>K ((r,l,j,g,f,()),decide (r12=0),())
def nB (m:Bool)(K:iQ→Option p):ST p:=λl r1 d f=>cl m (.slice tInt) (tA l f) λr5=>cl m ag (q9 l r5) λr6=>cl m tInt (qA l (w64 ((1:Int)+r1))) λr7=>cl m tInt (mod2_ev d.1 13) λr8=>cond (r8=12) (cl m tInt (mod2_ev d.2.2.1 (il l)) (λr9=>let a:=ix tCommit l r9;ck (bd r9 l.length) (fz m tInt (w64 (r7+1)) (λj=>fz m (.slice tInt) [a.1] λC=>fz m .str [100,101,101,100] λg=>fz m (.slice aa) a.2.2.2.2.1 λr=>kB m K r6 j r5 C g r)))) (cl m (.slice aa) (dX r6 d r7) (λr10=>ck (lm (List.length ([]:List tCommit.den)+List.length l)) (ck (lm (List.length ([]++l)+List.length ([(0,r5,[],[100,101,101,100],r10,())]:List tCommit.den))) (cl m tInt (qA ([]++l++[(0,r5,[],[100,101,101,100],r10,())]) (w64 ((1:Int)+r1))) (λr11=>fz m tInt (w64 (r11+1)) λj=>fz m .str [100,101,101,100] λg=>kB m K r6 j r5 [] g r10)))))
def wY (m:Bool)(K:iQ→Option p)(l:Υ)(f:(List Int))(d:bm.den):Option p:=cl m tInt (mod2_ev d.2.1 3) λr1=>ck (!(3:Int)=0) (cl m tInt (mod2_ev (w64 (Int.tdiv d.2.1 3)) 3) (λr2=>let a:=uu (w64 (w64 (il f-1)-r2)) 0;ck (bd a f.length) (ck (!(9:Int)=0) (cl m tInt (mod2_ev (w64 (Int.tdiv d.2.1 9)) 3) (λr3=>cond (r3=0) (ck (!(27:Int)=0) (cl m tInt (mod2_ev (w64 (Int.tdiv d.2.1 27)) (il f)) (λr4=>ck (bd r4 f.length) (ck (lm (List.length ([ix tInt f a]:List Int)+List.length ([ix tInt f r4]:List Int))) (fz m (.slice tInt) ([ix tInt f a]++[ix tInt f r4]) (λg=>nB m K l r1 d g)))))) (fz m (.slice tInt) [ix tInt f a] (λg=>nB m K l r1 d g)))))))
def nC (l:Υ)(f:(List Int))(d:bm.den):Option iQ:=wY false some l f d
def LJ:Ent:=evE (.cons (.slice tCommit) (.cons (.slice tInt) (.cons bm .unit))) kA (zero (.cons tCommit (.cons .bool .unit))) λx=>nC x.1 x.2.1 x.2.2.1
def SU:MS:=⟨2,[(0,[.dat tInt,.dat tInt,.dat tInt,.dat tInt]),(1,[.dat tInt,.dat (.slice tInt),.dat (.slice tInt),.dat .str,.dat (.slice aa)])],[(0,.dat (.slice tCommit)),(5,.keep),(6,.keep),(8,.dat tInt),(10,.own tInt 3)]⟩
def On:MS:=⟨14,[(0,[.drop,.drop,.drop,.drop]),(1,[.dat tInt,.dat (.slice tInt),.dat (.slice tInt),.dat .str,.dat (.slice aa)]),(7,[.dat tInt,.dat (.slice tInt),.dat (.slice tInt),.dat .str,.dat (.slice aa)]),(13,[.dat (.slice ae)])],[(6,.keep),(11,.keep),(12,.keep)]⟩
def abb:Par:=⟨bM.tab,aA [(18,Hl),(42,WB),(11,OD),(43,Xy),(6,JJ),(44,Lj)],λ_=>look [(6,SU),(14,On)],λ_=>look []⟩
def aba:am prog 14 (LJ):=evX func14 (S:=abb) aG (ah ⟨mod2_x,agJ,Ys,ajt,JI,aaQ,awN⟩) (tys:=[tCommit,.bool]) (λf x=>wY true (sm kA) x.1 x.2.1 x.2.2.1) (λx=>by show _=Option.map kA _;simp only[wY,nC,kB,nB,ss])
abbrev fZ (p:Type):=(List bm.den)→Υ→(List Int)→Int→Option p
abbrev NS (p:Type):=(List bm.den)→Int→Υ→(List Int)→Option p
def kw (m:Bool)(K:eN→Option p)(g:fZ p):NS p:=λl i out f=>fz m tInt (w64 (i+1)) λj=>g l out f j
def ku (m:Bool)(K:eN→Option p)(g:fZ p):fZ p:=λl out f i=>nq m [2,1] (i<il l) (cond (cond (i<il l) (i<9) false) (ck (bd i l.length) (cl m (.cons tCommit (.cons .bool .unit)) (nC out f (ix bm l i)) (λr2=>cond r2.2.1 (cl m (.slice tCommit) (m9 out r2.1) (λr3=>ck (lm (List.length f+List.length ([r2.1.1]:List Int))) (fz m (.slice tInt) (f++[r2.1.1]) (λj=>kw m K g l i r3 j)))) (kw m K g l i out f)))) (K out))
def sw (m:Bool)(K:eN→Option p)(f:fZ p)(first:Int)(l:(List bm.den)):Option p:=ce m tCommit true (firstF first) λr1=>fz m (.slice tCommit) [r1] λj=>fz m (.slice tInt) [r1.1] λg=>f l j g 0
def lu:Nat→fZ eN:=lp (λ_ _ _ _=>none) λf=>ku false some f
def dT (first:Int)(l:(List bm.den)):Option eN:=sw false some (lu FU) first l
def Vv:Ent:=evE (.cons tInt (.cons (.slice bm) .unit)) dL (zero (.slice tCommit)) λx=>dT x.1 x.2.1
def sx:MS:=⟨0,[],[(1,.dat (.slice bm)),(6,.dat (.slice tCommit)),(7,.own tInt 3),(8,.dat tInt)]⟩
def HI:Par:=⟨bM.tab,aA [(13,R6),(14,LJ),(15,K1)],λ_=>look [(6,sx)],λ_=>look [(5,sx)]⟩
def HJ:=h10 HI f5
def ll (f n:Nat):fZ AV:=λl out g i=>aI 0 sx (HJ f 0 [1,1,1,1,0,1,0,0]) (aj 0 (aP 0 none (HJ f 0 [1,1,1,1,1]) K6)) n ⟨mkE 48 [(1,.val (.slice bm) l),(6,.val (.slice tCommit) out),(7,.own 0 0 tInt g),(8,.val tInt i)],mkH 1 [(0,.row tInt 3 0)]⟩
def NT (f g:Nat):ll f (g+1)=ku true (sm dL) (ll f g):=Φ
def NU:∀n,ll FU n=mp4 dL (lu n):=cA Φ λf _ h=>(NT FU f).trans (by rw[h];funext _ _ _ _;simp only[ku,kw,ss])
def Vu:am prog 5 (Vv):=evX func5 (S:=HI) aG (ah ⟨aep,aba,aaD,awN⟩) (tys:=[(.slice tCommit)]) (λf x=>sw true (sm dL) (ll f f) x.1 x.2.1) (λx=>by show _=Option.map dL _;rw[NU FU];simp only[sw,dT,kw,ss])
def AY (m:Bool)(K:(List Int)→Option p)(l:Υ):Option p:=cl m (.slice tInt) (qS l) λr1=>K r1
def wP (l:Υ):Option (List Int):=AY false some l
def RP:Ent:=evE (.cons (.slice tCommit) .unit) aS (zero (.slice tInt)) λx=>wP x.1
def aee:Par:=⟨bM.tab,aA [(38,RN)],λ_=>look [],λ_=>look []⟩
def aed:am prog 12 (RP):=evX func12 (S:=aee) aG (ah ⟨aec,awN⟩) (tys:=[(.slice tInt)]) (λf x=>AY true (sm aS) x.1) (λx=>by show _=Option.map aS _;simp only[AY,wP,ss])
def Yt (m:Bool)(K:ag.den→Option p)(l:Υ):Option p:=cl m (.slice tInt) (wP l) λr1=>cl m ag (q9 l r1) λr2=>K r2
def vd (l:Υ):Option ag.den:=Yt false some l
def aoO:Ent:=evE (.cons (.slice tCommit) .unit) aR (zero ag) λx=>vd x.1
def aoP:Par:=⟨bM.tab,aA [(12,RP),(11,OD)],λ_=>look [],λ_=>look []⟩
def aoN:am prog 4 (aoO):=evX func4 (S:=aoP) aG (ah ⟨aed,Ys,awN⟩) (tys:=[ag]) (λf x=>Yt true (sm aR) x.1) (λx=>by show _=Option.map aR _;simp only[Yt,vd,ss])
end
