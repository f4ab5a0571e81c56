/- The equations of the program's functions. -/
import Derived.Test.YtfgpipfjalmooaaGreatChainW
import Derived.Test.YtfgpipfjalmooaaGreatFirG
set_option linter.all false
noncomputable section
namespace Go.Proofs.YtfgpipfjalmooaaGreat
namespace Abs
open Go Tryz
section
def bB:TabL:={
 ty:=[(3,tInt),(4,.bool),(5,(.int .u8)),(9,.str),(22,(.slice bg)),(23,(.slice tInt)),(24,(.slice tCommit)),(36,(.slice aa)),(38,tCommit),(42,aN),(44,aa),(45,tInt),(60,bg),(87,aO),(94,(.slice ag)),(96,ah),(120,(.slice (.slice tInt))),(144,(.slice eL)),(146,ag),(168,eL),(179,(.slice (.int .u8)))],
 cells:=[(3,1),(4,1),(5,1),(9,1),(22,1),(23,1),(24,1),(36,1),(38,5),(42,4),(44,6),(45,1),(60,4),(87,1),(94,1),(96,1),(120,1),(144,1),(146,3),(168,5),(179,1)],
 offs:=[((38,0),0),((38,1),1),((38,2),2),((38,3),3),((38,4),4),((42,0),0),((42,1),1),((42,2),2),((42,3),3),((44,0),0),((44,1),1),((44,2),2),((60,0),0),((60,1),1),((60,2),2),((60,3),3),((87,0),0),((96,0),0),((146,0),0),((146,1),1),((146,2),2),((168,0),0),((168,1),1)],
 one:=[],
 elem:=[(22,60),(23,3),(24,38),(36,44),(94,146),(120,23),(144,168),(179,5)] }
def NW:TabL:={
 ty:=[(3,tInt),(4,.bool),(5,(.int .u8)),(9,.str),(22,(.slice bg)),(23,(.slice tInt)),(24,(.slice tCommit)),(36,(.slice aa)),(38,tCommit),(42,aN),(44,aa),(45,tInt),(60,bg),(87,aO),(94,(.slice ag)),(96,ah),(120,(.slice (.slice tInt))),(144,(.slice eL)),(146,ag),(168,eL),(179,(.slice (.int .u8)))],
 cells:=[(3,1),(4,1),(5,1),(9,1),(22,1),(23,1),(24,1),(36,1),(38,5),(42,4),(44,6),(45,1),(60,4),(87,1),(94,1),(96,1),(120,1),(144,1),(146,3),(168,5),(179,1)],
 offs:=[((38,0),0),((38,1),1),((38,2),2),((38,3),3),((38,4),4),((42,0),0),((42,1),1),((42,2),2),((42,3),3),((44,0),0),((44,1),1),((44,2),2),((60,0),0),((60,1),1),((60,2),2),((60,3),3),((87,0),0),((96,0),0),((146,0),0),((146,1),1),((146,2),2),((168,0),0),((168,1),1)],
 one:=[],
 inp:=[22,23,24,36,94,120,144,179],
 elem:=[(22,60),(23,3),(24,38),(36,44),(94,146),(120,23),(144,168),(179,5)] }
def ay:TabOk prog bB.tab:=TabL.ok Φ
def NV:TabOk prog NW.tab:=TabL.ok Φ
variable{C:Type}
def rx (m:Bool)(K:Bool→Option C)(id:Int):Option C:=let a:Bool:=cond (id>1048576) (id<34603008) false;nq m [2,1] (id>1048576) (nm m 1 a (!(1048576:Int)=0) (nq m [2,1] a (K (cond a (!Int.tmod id 1048576=0) false))))
def bV (id:Int):Option Bool:=rx false some id
def eJ:Ent:=evE (.cons tInt .unit) ac (zero .bool) λx=>bV x.1
def ry:Par:=⟨bB.tab,az [],λ_=>look [],λ_=>look []⟩
def gq:ak prog 146 (eJ):=evX func146 (S:=ry) ay (af trivial) (tys:=[.bool]) (λf x=>rx true (sm ac) x.1) (λx=>by show _=Option.map ac _;simp only[rx,bV,ss])
abbrev jG (C:Type):=Str→Int→Option C
def lW (m:Bool)(K:Bool→Option C)(g:jG C):jG C:=λf i=>let b:Bool:=!ixs f i<97;let a:=bd i f.length;cond (i<il f) (ck a (nm m 2 b a (nq m [2,0] b (cond (cond (ixs f i<97) true (ixs f i>122)) (K false) (fz m tInt (w64 (i+1)) (λj=>g f j)))))) (K true)
def vC (m:Bool)(K:Bool→Option C)(g:jG C)(f:Str):Option C:=let c:Bool:=il f>60;let b:=w64 (il f-1);let a:Bool:=!cond (il f<1) true c;nq m [2,2,0] (!il f<1) (nq m [2,2] a (nm m 2 a (bd b f.length) (nq m [2,0] a (cond (cond (cond (il f<1) true c) true (ixs f b=97)) (K false) (g f 0)))))
def nZ:Nat→jG Bool:=lp (λ_ _=>none) λf=>lW false some f
def lX (f:Str):Option Bool:=vC false some (nZ FU) f
def IR:Ent:=evE (.cons .str .unit) ac (zero .bool) λx=>lX x.1
def CL:MS:=⟨0,[],[(0,.dat .str),(3,.dat tInt)]⟩
def IS:Par:=⟨bB.tab,az [],λ_=>look [],λ_=>look [(4,CL)]⟩
def i5:KT:=bq bB.tab [.tmp 2] [.bool]
def h12 (S:Par)(f:Func)(g j:Nat)(p:List Nat):Sg→KT→Option AV:=xc (bp fi0 hs0 g 0) S j g (sub (f.body.getD .skip) p)
def IT:=h12 IS f234
def nY (f n:Nat):jG AV:=λg i=>aE 0 CL (IT f 0 [1,1,0,1,0,0]) (ai 0 (aQ 0 none (IT f 0 [1,1,1]) i5)) n ⟨mkE 36 [(0,.val .str g),(3,.val tInt i)],mkH 0 []⟩
def NG (f g:Nat):nY f (g+1)=lW true (sm ac) (nY f g):=Φ
def NH:∀n,nY FU n=mp2 ac (nZ n):=bM Φ λf _ h=>(NG FU f).trans (by rw[h];funext _ _;simp only[lW,ss])
def WI:ak prog 234 (IR):=evX func234 (S:=IS) ay (af trivial) (tys:=[.bool]) (λf x=>vC true (sm ac) (nY f f) x.1) (λx=>by show _=Option.map ac _;rw[NH FU];simp only[vC,lX,ss])
def oA (m:Bool)(K:Bool→Option C)(a:aa.den)(b:aa.den):Option C:=nq m [2,2,3,1] (a.1=b.1) (K (cond (a.1=b.1) (decide (a.2.1=b.2.1)) false))
def fy (a:aa.den)(b:aa.den):Option Bool:=oA false some a b
def C1:Ent:=evE (.cons aa (.cons aa .unit)) ac (zero .bool) λx=>fy x.1 x.2.1
def OK:ak prog 323 (C1):=evX func323 (S:=ry) ay (af trivial) (tys:=[.bool]) (λf x=>oA true (sm ac) x.1 x.2.1) (λx=>by show _=Option.map ac _;simp only[oA,fy,ss])
def BF (m:Bool)(K:Bool→Option C)(a:aa.den)(b:aa.den):Option C:=cond (!a.1=b.1) (K (decide (a.1<b.1))) (K (decide (a.2.1<b.2.1)))
def jp (a:aa.den)(b:aa.den):Option Bool:=BF false some a b
def H3:Ent:=evE (.cons aa (.cons aa .unit)) ac (zero .bool) λx=>jp x.1 x.2.1
def Rn:ak prog 322 (H3):=evX func322 (S:=ry) ay (af trivial) (tys:=[.bool]) (λf x=>BF true (sm ac) x.1 x.2.1) (λx=>by show _=Option.map ac _;simp only[BF,jp,ss])
abbrev bv:=Υ
abbrev wh (C:Type):=Υ→Int→Υ→Int→Option C
abbrev ae2 (C:Type):=Υ→Int→Int→Υ→Option C
def Gg (m:Bool)(K:bv→Option C)(f:wh C):ae2 C:=λl id i out=>fz m tInt (w64 (i+1)) λg=>f l id out g
def Gf (m:Bool)(K:bv→Option C)(f:wh C):wh C:=λl id out i=>let a:=bd i l.length;cond (i<il l) (ck a (cond ((ix aa l i).1=id) (ck a (ck (lm (List.length out+List.length ([ix aa l i]:List aa.den))) (fz m (.slice aa) (out++[ix aa l i]) (λg=>Gg m K f l id i g)))) (Gg m K f l id i out))) (K out)
def Vd (m:Bool)(K:bv→Option C)(f:wh C)(l:Υ)(id:Int):Option C:=f l id [] 0
def D0:Nat→wh bv:=lp (λ_ _ _ _=>none) λf=>Gf false some f
def Gi (l:Υ)(id:Int):Option bv:=Vd false some (D0 FU) l id
def bE (r:bv):AV :=.val (.slice aa) r
def agU:Ent:=evE (.cons (.slice aa) (.cons tInt .unit)) bE (zero (.slice aa)) λx=>Gi x.1 x.2.1
def L3:MS:=⟨0,[],[(0,.dat (.slice aa)),(1,.dat tInt),(5,.own aa 44),(6,.dat tInt)]⟩
def agV:Par:=⟨bB.tab,az [],λ_=>look [(4,L3)],λ_=>look [(3,L3)]⟩
def aa3:KT:=bq bB.tab [.tmp 4] [(.slice aa)]
def agW:=h12 agV f144
def DZ (f n:Nat):wh AV:=λl id out i=>aE 0 L3 (agW f 0 [1,1,0,1,0,0]) (ai 0 (aQ 0 none (agW f 0 [1,1,1]) aa3)) n ⟨mkE 28 [(0,.val (.slice aa) l),(1,.val tInt id),(5,.own 0 0 aa out),(6,.val tInt i)],mkH 1 [(0,.row aa 44 0)]⟩
def ae3 (f g:Nat):DZ f (g+1)=Gf true (sm bE) (DZ f g):=Φ
def ae4:∀n,DZ FU n=mp4 bE (D0 n):=bM Φ λf _ h=>(ae3 FU f).trans (by rw[h];funext _ _ _ _;simp only[Gf,Gg,ss])
def ajm:ak prog 144 (agU):=evX func144 (S:=agV) ay (af trivial) (tys:=[(.slice aa)]) (λf x=>Vd true (sm bE) (DZ f f) x.1 x.2.1) (λx=>by show _=Option.map bE _;rw[ae4 FU];simp only[Vd,Gi,Gg,ss])
abbrev bm (C:Type):=Υ→Int→Option C
def agI (g:aa.den)(f:aa.den):Bool:=(jp g f).isSome
def agJ (g:aa.den)(f:aa.den):Bool:=(jp g f).getD (zero .bool)
def lQ (m:Bool)(K:Bool→Option C)(j:bm C):bm C:=λl i=>let g:=w64 (i-1);let h:=ix aa l g;let e:=bd i l.length;let c:=ix aa l i;cond (i<il l) (ck e (cl m .bool (bV c.1) (λr1=>let f:Bool:=!cond (!r1) true (c.2.1<1);let b:Bool:=cond (!r1) true (c.2.1<1);let d:Bool:=!cond b true (c.2.1≥48);let a:Bool:=!cond b true (c.2.1≥48)&&i>0;nm m 2 (!!r1) e (nq m [2,2,2,0] (!!r1) (nm m 2 f e (nq m [2,2,2,0] f (nq m [2,2] d (nq m [2] a (nm m 2 a (bd g l.length) (nq m [2] a (nm m 2 a e (nq m [2] a (nm m 2 a (agI h c) (nq m [2] a (nm m 0 d (ii a&&true) (nq m [0] d (cond (cond (cond b true (c.2.1≥48)) true (cond (i>0) (!agJ h c) false)) (K false) (fz m tInt (w64 (i+1)) (λp=>j l p))))))))))))))))))) (K true)
def vn (m:Bool)(K:Bool→Option C)(f:bm C)(l:Υ):Option C:=f l 0
def nO:Nat→bm Bool:=lp (λ_ _=>none) λf=>lQ false some f
def lR (l:Υ):Option Bool:=vn false some (nO FU) l
def IG:Ent:=evE (.cons (.slice aa) .unit) ac (zero .bool) λx=>lR x.1
def gJ:MS:=⟨0,[],[(0,.dat (.slice aa)),(3,.dat tInt)]⟩
def IH:Par:=⟨bB.tab,az [(146,eJ),(322,H3)],λ_=>look [],λ_=>look [(2,gJ)]⟩
def II:=h12 IH f287
def nM (f n:Nat):bm AV:=λl i=>aE 0 gJ (II f 0 [1,0,1,0,0]) (ai 0 (aQ 0 none (II f 0 [1,1]) i5)) n ⟨mkE 50 [(0,.val (.slice aa) l),(3,.val tInt i)],mkH 0 []⟩
def Nf (f g:Nat):nM f (g+1)=lQ true (sm ac) (nM f g):=Φ
def Ng:∀n,nM FU n=mp2 ac (nO n):=bM Φ λf _ h=>(Nf FU f).trans (by rw[h];funext _ _;simp only[lQ,ss])
def WB:ak prog 287 (IG):=evX func287 (S:=IH) ay (af ⟨gq,Rn,apj⟩) (tys:=[.bool]) (λf x=>vn true (sm ac) (nM f f) x.1) (λx=>by show _=Option.map ac _;rw[Ng FU];simp only[vn,lR,ss])
def lU (m:Bool)(K:Bool→Option C)(f:bm C):bm C:=λl i=>cond (i<il l) (ck (bd i l.length) (cond (eqD aN (ix aa l i).2.2.1 (0,false,[],0,())) (K false) (fz m tInt (w64 (i+1)) (λg=>f l g)))) (cl m .bool (lR l) (λr1=>K r1))
def vA (m:Bool)(K:Bool→Option C)(f:bm C)(l:Υ):Option C:=f l 0
def nX:Nat→bm Bool:=lp (λ_ _=>none) λf=>lU false some f
def lV (l:Υ):Option Bool:=vA false some (nX FU) l
def IN:Ent:=evE (.cons (.slice aa) .unit) ac (zero .bool) λx=>lV x.1
def IP:Par:=⟨bB.tab,az [(287,IG)],λ_=>look [],λ_=>look [(2,gJ)]⟩
def IQ:=h12 IP f232
def nW (f n:Nat):bm AV:=λl i=>aE 0 gJ (IQ f 0 [1,0,1,0,0]) (ai 0 (aQ 0 none (IQ f 0 [1,1]) i5)) n ⟨mkE 19 [(0,.val (.slice aa) l),(3,.val tInt i)],mkH 0 []⟩
def ND (f g:Nat):nW f (g+1)=lU true (sm ac) (nW f g):=Φ
def NE:∀n,nW FU n=mp2 ac (nX n):=bM Φ λf _ h=>(ND FU f).trans (by rw[h];funext _ _;simp only[lU,ss])
def WH:ak prog 232 (IN):=evX func232 (S:=IP) ay (af ⟨WB,apj⟩) (tys:=[.bool]) (λf x=>vA true (sm ac) (nW f f) x.1) (λx=>by show _=Option.map ac _;rw[NE FU];simp only[vA,lV,ss])
abbrev lT (C:Type):=aO.den→Int→Int→Int→Int→Option C
def Fy (g:aa.den)(f:aa.den):Bool:=(fy g f).isSome
def Ss (g:aa.den)(f:aa.den):Bool:=(fy g f).getD (zero .bool)
def pK (m:Bool)(K:aN.den→Option C)(j:lT C):lT C:=λf id field g r=>let c:=bd g f.1.length;let b:=ix aa f.1 g;let a:=Int.tdiv (w64 (g+r)) 2;let d:=w64 a;cond (g<r) (ck (!(2:Int)=0) (ck (bd d f.1.length) (cl m .bool (jp (ix aa f.1 d) (id,field,(0,false,[],0,()),())) (λr1=>cond r1 (fz m tInt (w64 (w64 a+1)) (λp=>j f id field p r)) (fz m tInt d (λl=>j f id field g l)))))) (nq m [2] (g<il f.1) (nm m 2 (g<il f.1) c (nq m [2] (g<il f.1) (nm m 2 (g<il f.1) (Fy b (id,field,(0,false,[],0,()),())) (nq m [1] (g<il f.1) (cond (cond (g<il f.1) (Ss b (id,field,(0,false,[],0,()),())) false) (ck c (K b.2.2.1)) (K (0,false,[],0,()))))))))
def y9 (m:Bool)(K:aN.den→Option C)(f:lT C)(j:aO.den)(id:Int)(field:Int):Option C:=fz m tInt (il j.1) λg=>f j id field 0 g
def ru:Nat→lT aN.den:=lp (λ_ _ _ _ _=>none) λf=>pK false some f
def vz (f:aO.den)(id:Int)(field:Int):Option aN.den:=y9 false some (ru FU) f id field
def cN (r:aN.den):AV :=.val aN r
def Nz:Ent:=evE (.cons aO (.cons tInt (.cons tInt .unit))) cN (zero aN) λx=>vz x.1 x.2.1 x.2.2.1
def EL:MS:=⟨6,[(0,[.dat (.slice aa)]),(1,[.dat tInt,.dat .bool,.dat .str,.dat tInt]),(5,[.dat tInt,.dat tInt,.dat tInt,.dat .bool,.dat .str,.dat tInt])],[(3,.keep),(6,.keep),(7,.keep),(8,.dat tInt),(9,.dat tInt)]⟩
def NA:Par:=⟨bB.tab,az [(322,H3),(323,C1)],λ_=>look [],λ_=>look [(3,EL)]⟩
def ZJ:KT:=bq bB.tab [.cell 6 42] [aN]
def NB:=h12 NA f288
def rn (f n:Nat):lT AV:=λg id field j l=>aE 0 EL (NB f 0 [1,1,1,0,0,0]) (ai 0 (aQ 0 none (NB f 0 [1,1,1,1]) ZJ)) n ⟨mkE 55 [(3,.box 0 0),(6,.box 1 0),(7,.box 5 0),(8,.val tInt j),(9,.val tInt l)],mkH 6 [(0,.box [.val (.slice aa) g.1]),(1,.box [.val tInt (0:Int),.val .bool false,.val .str [],.val tInt (0:Int)]),(5,.box [.val tInt id,.val tInt field,.val tInt (0:Int),.val .bool false,.val .str [],.val tInt (0:Int)])]⟩
def RD (f g:Nat):rn f (g+1)=pK true (sm cN) (rn f g):=Φ
def RE:∀n,rn FU n=mp5 cN (ru n):=bM Φ λf _ h=>(RD FU f).trans (by rw[h];funext _ _ _ _ _;simp only[pK,ss])
def ZI:ak prog 288 (Nz):=evX func288 (S:=NA) ay (af ⟨Rn,OK,apj⟩) (tys:=[aN]) (λf x=>y9 true (sm cN) (rn f f) x.1 x.2.1 x.2.2.1) (λx=>by show _=Option.map cN _;rw[RE FU];simp only[y9,vz,ss])
def Ms (m:Bool)(K:aN.den→Option C)(f:aO.den)(id:Int)(field:Int):Option C:=cl m aN (vz f id field) λr1=>K r1
def AU (f:aO.den)(id:Int)(field:Int):Option aN.den:=Ms false some f id field
def ab2:Ent:=evE (.cons aO (.cons tInt (.cons tInt .unit))) cN (zero aN) λx=>AU x.1 x.2.1 x.2.2.1
def ain:Par:=⟨bB.tab,az [(288,Nz)],λ_=>look [],λ_=>look []⟩
def aim:ak prog 233 (ab2):=evX func233 (S:=ain) ay (af ⟨ZI,apj⟩) (tys:=[aN]) (λf x=>Ms true (sm cN) x.1 x.2.1 x.2.2.1) (λx=>by show _=Option.map cN _;simp only[Ms,AU,ss])
abbrev lE (C:Type):=aO.den→(List Int)→Int→Option C
abbrev YJ (C:Type):=Int→aO.den→(List Int)→Option C
def uI (m:Bool)(K:(List Int)→Option C)(f:lE C):YJ C:=λi j l=>fz m tInt (w64 (i+1)) λg=>f j l g
def uH (m:Bool)(K:(List Int)→Option C)(f:lE C):lE C:=λg l i=>let d:=w64 (i-1);let c:=bd i g.1.length;let b:Bool:=!i=0;let a:=ix aa g.1 i;cond (i<il g.1) (nq m [2] b (nm m 2 b c (nq m [2,2,2,2] b (nm m 2 b (bd d g.1.length) (nq m [2,2,3,0] b (cond (cond (i=0) true (! a.1=(ix aa g.1 d).1)) (ck c (ck (lm (List.length l+List.length ([a.1]:List Int))) (fz m (.slice tInt) (l++[a.1]) (λj=>uI m K f i g j)))) (uI m K f i g l))))))) (K l)
def Eg (m:Bool)(K:(List Int)→Option C)(f:lE C)(g:aO.den):Option C:=f g [] 0
def wJ:Nat→lE (List Int):=lp (λ_ _ _=>none) λf=>uH false some f
def uJ (f:aO.den):Option (List Int):=Eg false some (wJ FU) f
def ap (r:(List Int)):AV :=.val (.slice tInt) r
def VI:Ent:=evE (.cons aO .unit) ap (zero (.slice tInt)) λx=>uJ x.1
def Cl:MS:=⟨1,[(0,[.dat (.slice aa)])],[(1,.keep),(3,.own tInt 3),(4,.dat tInt)]⟩
def VJ:Par:=⟨bB.tab,az [],λ_=>look [(4,Cl)],λ_=>look [(3,Cl)]⟩
def Mk:KT:=bq bB.tab [.tmp 2] [(.slice tInt)]
def VK:=h12 VJ f184
def wI (f n:Nat):lE AV:=λg l i=>aE 0 Cl (VK f 0 [1,1,0,1,0,0]) (ai 0 (aQ 0 none (VK f 0 [1,1,1]) Mk)) n ⟨mkE 40 [(1,.box 0 0),(3,.own 1 0 tInt l),(4,.val tInt i)],mkH 2 [(0,.box [.val (.slice aa) g.1]),(1,.row tInt 3 0)]⟩
def YK (f g:Nat):wI f (g+1)=uH true (sm ap) (wI f g):=Φ
def YL:∀n,wI FU n=mp3 ap (wJ n):=bM Φ λf _ h=>(YK FU f).trans (by rw[h];funext _ _ _;simp only[uH,uI,ss])
def afD:ak prog 184 (VI):=evX func184 (S:=VJ) ay (af trivial) (tys:=[(.slice tInt)]) (λf x=>Eg true (sm ap) (wI f f) x.1) (λx=>by show _=Option.map ap _;rw[YL FU];simp only[Eg,uJ,uI,ss])
def pM (f:Int):Bool:=(bV f).isSome
def gL (f:Int):Bool:=(bV f).getD (zero .bool)
def rK (m:Bool)(K:Bool→Option C)(v:aN.den):Option C:=let j:=decide (v.1<5);let i:=K false;let h:=decide (v.1=12);let f:Bool:=!decide (v.1=16);let e:=bif h then true else(decide (v.1=16));let d:=decide (v.2.2.2.1=0);let c:Bool:=!decide (v.2.2.2.1=0);let b:=bif e then true else(decide (v.1=9));let g:=bif c then(! b)else false;let a:=bif j then true else(decide (v.1>22));(nq m [2,2,0] (! j) (nq m [2,2,2] (! a) (nq m [2] ((! a)&&c) (nm m 1 ((! a)&&c) (pM (v.2.2.2.1)) (nq m [2] ((! a)&&c) (nm m 0 (! a) ((ii ((! a)&&c))&&true) (nq m [0] (! a) (bif (bif a then true else(bif c then(!(gL (v.2.2.2.1)))else false))then i else(nq m [2,2,0] (! h) (nq m [2,2,0] (! e) (nq m [2,1] c (nq m [2,2,1] g (bif (bif g then(!decide (v.1=17))else false)then i else(nq m [2,2,2] (v.2.1) (nq m [2,2,2] (v.2.1&&(! d)) (nq m [2,2] ((v.2.1&&(! d))&&f) (nm m 0 (v.2.1&&(! d)) ((ii ((v.2.1&&(! d))&&f))&&true) (nm m 0 (v.2.1) (ii (v.2.1&&(! d))) (nq m [1] (v.2.1) (bif (bif v.2.1 then(bif d then true else(bif f then(!decide (v.1=9))else false))else false)then i else(nq m [2,2,1] b (bif (bif b then c else false)then(K (decide (v.2.2.1=[])))else(cl m .bool (ir (v.1) (v.2.2.1)) λr1=>(K r1))))))))))))))))))))))))
def jM (v:aN.den):Option Bool:=rK false some v
def Fc:Ent:=evE (.cons aN .unit) ac (zero .bool) λx=>jM x.1
def R6:Par:=⟨bB.tab,az [(146,eJ),(273,CP)],λ_=>look [],λ_=>look []⟩
def R5:ak prog 236 (Fc):=evX func236 (S:=R6) ay (af ⟨gq,NT,apj⟩) (tys:=[.bool]) (λf x=>rK true (sm ac) x.1) (λx=>by show _=Option.map ac _;simp only[rK,jM,ss])
def ZT (g:Str)(f:Bool):Bool:=(i6 g f).isSome
def ZU (g:Str)(f:Bool):Bool:=(i6 g f).getD (zero .bool)
def wO (m:Bool)(K:Bool→Option C)(g:Int)(field:Int)(v:aN.den):Option C:=let f:=K false;let e:=cond (v.1<0) true (v.1>3);let d:Bool:=cond (g=1) (decide (field=10)) false;let c:Bool:=eqD aN v (0,false,v.2.2.1,0,())&&g=1;let b:Bool:=!cond e true v.2.1;let a:=eqD aN v (0,false,v.2.2.1,0,());cond (eqD aN v (0,false,[],0,())) (K true) (nq m [2,0] (!g<1) (cond (cond (g<1) true (g>5)) f (cond (field=1) (K (eqD aN v (g,false,[],0,()))) (nq m [2,1] (field=2) (cond (cond (field=2) (g=1) false) (K (eqD aN v (1,false,[],0,()))) (cond (field=2) (nq m [2,2,0] (!v.1<0) (nq m [2,0] (!cond (v.1<0) true (v.1>3)) (nq m [2] b (nm m 1 b (pM v.2.2.2.1) (nq m [2,0] b (cond (cond (cond e true v.2.1) true (!gL v.2.2.2.1)) f (cond (v.1=0) (cl m .bool (lX v.2.2.1) (λr1=>K r1)) (K (decide (v.2.2.1=[])))))))))) (nq m [2,1] (field=3) (cond (cond (field=3) (!g=5) false) (cl m tInt (lK v.2.2.1) (λj=>cond (!eqD aN v (0,false,v.2.2.1,0,())) f (nq m [2,0] (!g=1) (cond (cond (g=1) true (g=3)) (K (decide (j=2))) (K (decide (j=1))))))) (nq m [2,1] (field=4) (cond (cond (field=4) (g=5) false) (cl m .bool (jM v) (λl=>K l)) (nq m [2,1] (field≥8) (cond (cond (field≥8) (field<48) false) (nq m [2,2,2] a (nq m [2] c (nm m 0 a (ii c&&true) (nm m 2 a (ZT v.2.2.1 d) (nq m [1] a (K (cond a (ZU v.2.2.1 d) false))))))) f))))))))))))
def jj (f:Int)(field:Int)(v:aN.den):Option Bool:=wO false some f field v
def Co:Ent:=evE (.cons tInt (.cons tInt (.cons aN .unit))) ac (zero .bool) λx=>jj x.1 x.2.1 x.2.2.1
def YQ:Par:=⟨bB.tab,az [(146,eJ),(234,IR),(235,HG),(236,Fc),(237,IV)],λ_=>look [],λ_=>look []⟩
def J5:ak prog 186 (Co):=evX func186 (S:=YQ) ay (af ⟨gq,WI,Q4,R5,WO,apj⟩) (tys:=[.bool]) (λf x=>wO true (sm ac) x.1 x.2.1 x.2.2.1) (λx=>by show _=Option.map ac _;simp only[wO,jj,ss])
abbrev gx (C:Type):=aO.den→Int→Bool→Bool→Int→Option C
abbrev CT (C:Type):=aO.den→Int→Int→Bool→Bool→Option C
def pY (m:Bool)(K:Bool→Option C)(j:gx C):CT C:=λp i g named f=>fz m tInt (w64 (i+1)) λl=>j p g named f l
def i9 (m:Bool)(K:Bool→Option C)(r:gx C):CT C:=λR i l named p=>let k:=w64 (i+1);let j:=il R.1-1;let d:=bd i R.1.length;let c:Bool:=!i=w64 j;let b:=ix aa R.1 i;let g:=cond named true (decide (b.2.1=3));let f:=cond p true (decide (b.2.1=4));let a:Bool:=!cond p true (b.2.1=4);let h:Bool:=!cond (l=5) a false&&!l=5;let e:Bool:=!cond (l=5) a false;ck d (ck d (cl m .bool (jj l b.2.1 b.2.2.1) (λT=>cond (!T) (K false) (nm m 2 (!named) d (nq m [2,2,2,0] (!named) (nm m 2 (!p) d (nq m [2,2,2,0] (!p) (nq m [2] c (nm m 2 c (bd k R.1.length) (nq m [2,2] c (nm m 2 c d (nq m [2,2,3,0] c (cond (cond (i=w64 j) true (!(ix aa R.1 k).1=b.1)) (nq m [2,1] (l=5) (nq m [2,2] e (nq m [2] h (nm m 0 e (ii h&&true) (nq m [0] e (cond (cond (cond (l=5) a false) true (cond (!l=5) (!cond named true (b.2.1=3)) false)) (K false) (fz m .bool g (λP=>fz m .bool f λJ=>pY m K r R i l P J)))))))) (fz m .bool g (λP=>fz m .bool f λJ=>pY m K r R i l P J)))))))))))))))
def pX (m:Bool)(K:Bool→Option C)(g:gx C):gx C:=λj l named f i=>let d:=w64 (i-1);let c:Bool:=!i=0;let b:=ix aa j.1 i;let a:=bd i j.1.length;cond (i<il j.1) (nm m 2 c a (nq m [2,2,2] c (nm m 2 c (bd d j.1.length) (nq m [2,2,3,0] c (cond (cond (i=0) true (! b.1=(ix aa j.1 d).1)) (ck a (cond (! b.2.1=1) (K false) (ck a (fz m tInt b.2.2.1.1 (λp=>i9 m K g j i p false false))))) (i9 m K g j i l named f)))))) (K true)
def zq (m:Bool)(K:Bool→Option C)(f:gx C)(g:aO.den):Option C:=cl m .bool (lV g.1) λr1=>cond (!r1) (K false) (f g 0 false false 0)
def ma:Nat→gx Bool:=lp (λ_ _ _ _ _=>none) λf=>pX false some f
def pZ (f:aO.den):Option Bool:=zq false some (ma FU) f
def N8:Ent:=evE (.cons aO .unit) ac (zero .bool) λx=>pZ x.1
def rE:MS:=⟨0,[],[(3,.dat (.slice aa)),(4,.dat tInt),(5,.dat .bool),(6,.dat .bool),(7,.dat tInt)]⟩
def N9:Par:=⟨bB.tab,az [(232,IN),(186,Co)],λ_=>look [(12,rE),(7,rE)],λ_=>look [(6,rE)]⟩
def Oa:=h12 N9 f183
def rF (g n:Nat):gx AV:=λl j named f i=>aE 0 rE (Oa g 0 [1,1,1,1,0,1,0,0]) (ai 0 (aQ 0 none (Oa g 0 [1,1,1,1,1]) i5)) n ⟨mkE 111 [(3,.val (.slice aa) l.1),(4,.val tInt j),(5,.val .bool named),(6,.val .bool f),(7,.val tInt i)],mkH 0 []⟩
def RR (f g:Nat):rF f (g+1)=pX true (sm ac) (rF f g):=Φ
def RU:∀n,rF FU n=mp5 ac (ma n):=bM Φ λf _ h=>(RR FU f).trans (by rw[h];funext _ _ _ _ _;simp only[pX,i9,pY,ss])
def aal:ak prog 183 (N8):=evX func183 (S:=N9) ay (af ⟨WH,J5,apj⟩) (tys:=[.bool]) (λf x=>zq true (sm ac) (rF f f) x.1) (λx=>by show _=Option.map ac _;rw[RU FU];simp only[zq,pZ,i9,pY,ss])
abbrev iH (C:Type):=Int→Int→aO.den→Int→Int→Option C
def jU (m:Bool)(K:Bool→Option C)(g:iH C):iH C:=λl f p id i=>cond (i<f) (cl m aN (AU p id 2) (λr1=>cond (r1.2.2.2.1=l) (K true) (cond (r1.2.2.2.1=0) (K false) (fz m tInt (w64 (i+1)) (λj=>g l f p r1.2.2.2.1 j))))) (K false)
def rU (m:Bool)(K:Bool→Option C)(g:iH C)(l:aO.den)(id:Int)(j:Int)(f:Int):Option C:=g j f l id 0
def kV:Nat→iH Bool:=lp (λ_ _ _ _ _=>none) λf=>jU false some f
def gO (j:aO.den)(id:Int)(g:Int)(f:Int):Option Bool:=rU false some (kV FU) j id g f
def FB:Ent:=evE (.cons aO (.cons tInt (.cons tInt (.cons tInt .unit)))) ac (zero .bool) λx=>gO x.1 x.2.1 x.2.2.1 x.2.2.2.1
def zN:MS:=⟨1,[(0,[.dat (.slice aa)])],[(1,.dat tInt),(2,.dat tInt),(3,.dat tInt),(4,.keep),(9,.dat tInt)]⟩
def FD:Par:=⟨bB.tab,az [(233,ab2)],λ_=>look [],λ_=>look [(2,zN)]⟩
def SE:KT:=bq bB.tab [.tmp 8] [.bool]
def FE:=h12 FD f185
def kU (f n:Nat):iH AV:=λj g l id i=>aE 0 zN (FE f 0 [1,0,1,0,0]) (ai 0 (aQ 0 none (FE f 0 [1,1]) SE)) n ⟨mkE 24 [(1,.val tInt id),(2,.val tInt j),(3,.val tInt g),(4,.box 0 0),(9,.val tInt i)],mkH 1 [(0,.box [.val (.slice aa) l.1])]⟩
def LB (f g:Nat):kU f (g+1)=jU true (sm ac) (kU f g):=Φ
def LC:∀n,kU FU n=mp5 ac (kV n):=bM Φ λf _ h=>(LB FU f).trans (by rw[h];funext _ _ _ _ _;simp only[jU,ss])
def SD:ak prog 185 (FB):=evX func185 (S:=FD) ay (af ⟨aim,apj⟩) (tys:=[.bool]) (λf x=>rU true (sm ac) (kU f f) x.1 x.2.1 x.2.2.1 x.2.2.2.1) (λx=>by show _=Option.map ac _;rw[LC FU];simp only[rU,gO,ss])
abbrev g8 (C:Type):=Int→(List Int)→aO.den→(List Int)→Int→Option C
abbrev Rd (C:Type):=Int→(List Int)→Int→aO.den→(List Int)→Option C
def nA (m:Bool)(K:(List Int)→Option C)(f:g8 C):Rd C:=λid l i j out=>fz m tInt (w64 (i+1)) λg=>f id l j out g
def Jj (l:aO.den)(j:Int)(g:Int)(f:Int):Bool:=(gO l j g f).isSome
def XI (l:aO.den)(j:Int)(g:Int)(f:Int):Bool:=(gO l j g f).getD (zero .bool)
def nz (m:Bool)(K:(List Int)→Option C)(g:g8 C):g8 C:=λid f j out i=>let d:=ix tInt f i;let c:=w64 (il f+1);let b:=bd i f.length;let a:Bool:=!ix tInt f i=id;cond (i<il f) (ck b (nm m 2 a b (nq m [2,2,2] a (ck (ii a&&(ii a&&(ii a&&(ii a&&true)))&&aL a (Jj j d id c)) (nq m [1] a (cond (cond a (XI j d id c) false) (ck b (ck (lm (List.length out+List.length ([ix tInt f i]:List Int))) (fz m (.slice tInt) (out++[ix tInt f i]) (λl=>nA m K g id f i j l)))) (nA m K g id f i j out))))))) (K out)
def wW (m:Bool)(K:(List Int)→Option C)(f:g8 C)(g:aO.den)(id:Int):Option C:=cl m .bool (pZ g) λr1=>nm m 1 (!!r1) (pM id) (nq m [2,0] (!!r1) (cond (cond (!r1) true (!gL id)) (K []) (cl m (.slice tInt) (uJ g) (λj=>f id j g [] 0))))
def oY:Nat→g8 (List Int):=lp (λ_ _ _ _ _=>none) λf=>nz false some f
def nB (f:aO.den)(id:Int):Option (List Int):=wW false some (oY FU) f id
def Kz:Ent:=evE (.cons aO (.cons tInt .unit)) ap (zero (.slice tInt)) λx=>nB x.1 x.2.1
def u4:MS:=⟨1,[(0,[.dat (.slice aa)])],[(1,.dat tInt),(2,.keep),(5,.own tInt 3),(6,.dat (.slice tInt)),(7,.dat tInt)]⟩
def KA:Par:=⟨bB.tab,az [(183,N8),(146,eJ),(184,VI),(185,FB)],λ_=>look [(7,u4)],λ_=>look [(6,u4)]⟩
def wX:KT:=bq bB.tab [.tmp 4] [(.slice tInt)]
def KB:=h12 KA f143
def oX (f n:Nat):g8 AV:=λid j g out i=>aE 0 u4 (KB f 0 [1,1,1,1,0,1,0,0]) (ai 0 (aQ 0 none (KB f 0 [1,1,1,1,1]) wX)) n ⟨mkE 50 [(1,.val tInt id),(2,.box 0 0),(5,.own 1 0 tInt out),(6,.val (.slice tInt) j),(7,.val tInt i)],mkH 2 [(0,.box [.val (.slice aa) g.1]),(1,.row tInt 3 0)]⟩
def Re (f g:Nat):oX f (g+1)=nz true (sm ap) (oX f g):=Φ
def Rf:∀n,oX FU n=mp5 ap (oY n):=bM Φ λf _ h=>(Re FU f).trans (by rw[h];funext _ _ _ _ _;simp only[nz,nA,ss])
def Zd:ak prog 143 (Kz):=evX func143 (S:=KA) ay (af ⟨aal,gq,afD,SD,apj⟩) (tys:=[(.slice tInt)]) (λf x=>wW true (sm ap) (oX f f) x.1 x.2.1) (λx=>by show _=Option.map ap _;rw[Rf FU];simp only[wW,nB,nA,ss])
abbrev ga (C:Type):=(List Int)→Int→Int→Option C
def AR (m:Bool)(K:Bool→Option C)(f:ga C):ga C:=λl x i=>cond (i<il l) (ck (bd i l.length) (cond (ix tInt l i=x) (K true) (fz m tInt (w64 (i+1)) (λg=>f l x g)))) (K false)
def Mp (m:Bool)(K:Bool→Option C)(f:ga C)(l:(List Int))(x:Int):Option C:=f l x 0
def AQ:Nat→ga Bool:=lp (λ_ _ _=>none) λf=>AR false some f
def oR (l:(List Int))(x:Int):Option Bool:=Mp false some (AQ FU) l x
def sI:Ent:=evE (.cons (.slice tInt) (.cons tInt .unit)) ac (zero .bool) λx=>oR x.1 x.2.1
def G7:MS:=⟨0,[],[(0,.dat (.slice tInt)),(1,.dat tInt),(5,.dat tInt)]⟩
def Mq:Par:=⟨bB.tab,az [],λ_=>look [],λ_=>look [(2,G7)]⟩
def aik:KT:=bq bB.tab [.tmp 4] [.bool]
def abZ:=h12 Mq f17
def AP (f n:Nat):ga AV:=λl x i=>aE 0 G7 (abZ f 0 [1,0,1,0,0]) (ai 0 (aQ 0 none (abZ f 0 [1,1]) aik)) n ⟨mkE 18 [(0,.val (.slice tInt) l),(1,.val tInt x),(5,.val tInt i)],mkH 0 []⟩
def abX (f g:Nat):AP f (g+1)=AR true (sm ac) (AP f g):=Φ
def abY:∀n,AP FU n=mp3 ac (AQ n):=bM Φ λf _ h=>(abX FU f).trans (by rw[h];funext _ _ _;simp only[AR,ss])
def uK:ak prog 17 (sI):=evX func17 (S:=Mq) ay (af trivial) (tys:=[.bool]) (λf x=>Mp true (sm ac) (AP f f) x.1 x.2.1) (λx=>by show _=Option.map ac _;rw[abY FU];simp only[Mp,oR,ss])
def zR (m:Bool)(K:(List Int)→Option C)(g:ga C):ga C:=λl x f=>let d:=Int.toNat f;let c:=List.take (List.length l) l;let b:=w64 (f-1);let e:=bd b l.length;let a:=List.take d l;nq m [2] (f>0) (nm m 2 (f>0) e (nq m [2,3,1] (f>0) (cond (cond (f>0) (ix tInt l b≥x) false) (ck e (cond (ix tInt l b=x) (K l) (fz m tInt b (λj=>g l x j)))) (ck (0≤f&&f≤(l.length:Int)) (ck (lm (List.length ([]:List Int)+List.length (a.drop 0))) (ck (lm (List.length ([]++a.drop 0)+List.length ([x]:List Int))) (ck (0≤f&&f≤(l.length:Int)) (ck (lm (List.length ([]++a.drop 0++[x])+List.length (c.drop d))) (K ([]++a.drop 0++[x]++c.drop d))))))))))
def LD (m:Bool)(K:(List Int)→Option C)(f:ga C)(l:(List Int))(x:Int):Option C:=fz m tInt (il l) λg=>f l x g
def zQ:Nat→ga (List Int):=lp (λ_ _ _=>none) λf=>zR false some f
def iI (l:(List Int))(x:Int):Option (List Int):=LD false some (zQ FU) l x
def BX:Ent:=evE (.cons (.slice tInt) (.cons tInt .unit)) ap (zero (.slice tInt)) λx=>iI x.1 x.2.1
def aaK:=h12 Mq f19
def zP (f n:Nat):ga AV:=λl x g=>aE 0 G7 (aaK f 0 [1,1,0,0,0]) (ai 0 (aQ 0 none (aaK f 0 [1,1,1]) wX)) n ⟨mkE 44 [(0,.val (.slice tInt) l),(1,.val tInt x),(5,.val tInt g)],mkH 0 []⟩
def aaI (f g:Nat):zP f (g+1)=zR true (sm ap) (zP f g):=Φ
def aaJ:∀n,zP FU n=mp3 ap (zQ n):=bM Φ λf _ h=>(aaI FU f).trans (by rw[h];funext _ _ _;simp only[zR,ss])
def FL:ak prog 19 (BX):=evX func19 (S:=Mq) ay (af trivial) (tys:=[(.slice tInt)]) (λf x=>LD true (sm ap) (zP f f) x.1 x.2.1) (λx=>by show _=Option.map ap _;rw[aaJ FU];simp only[LD,iI,ss])
abbrev mT (C:Type):=(List Int)→Int→Option C
def qN (m:Bool)(K:Bool→Option C)(f:mT C):mT C:=λl i=>let d:=w64 (i-1);let b:=bd i l.length;cond (i<il l) (ck b (cl m .bool (bV (ix tInt l i)) (λr1=>let c:Bool:=!!r1;let a:Bool:=!!r1&&i>0;nq m [2,2] c (nm m 2 a b (nq m [2,2] a (nm m 2 a (bd d l.length) (nq m [2,3] a (nm m 0 c (ii a&&true) (nq m [0] c (cond (cond (!r1) true (cond (i>0) (ix tInt l i≤ix tInt l d) false)) (K false) (fz m tInt (w64 (i+1)) (λg=>f l g)))))))))))) (K true)
def AK (m:Bool)(K:Bool→Option C)(f:mT C)(l:(List Int)):Option C:=f l 0
def sD:Nat→mT Bool:=lp (λ_ _=>none) λf=>qN false some f
def lF (l:(List Int)):Option Bool:=AK false some (sD FU) l
def Qb:Ent:=evE (.cons (.slice tInt) .unit) ac (zero .bool) λx=>lF x.1
def G1:MS:=⟨0,[],[(0,.dat (.slice tInt)),(3,.dat tInt)]⟩
def Qc:Par:=⟨bB.tab,az [(146,eJ)],λ_=>look [],λ_=>look [(2,G1)]⟩
def Qd:=h12 Qc f147
def sC (f n:Nat):mT AV:=λl i=>aE 0 G1 (Qd f 0 [1,0,1,0,0]) (ai 0 (aQ 0 none (Qd f 0 [1,1]) i5)) n ⟨mkE 32 [(0,.val (.slice tInt) l),(3,.val tInt i)],mkH 0 []⟩
def TP (f g:Nat):sC f (g+1)=qN true (sm ac) (sC f g):=Φ
def TQ:∀n,sC FU n=mp2 ac (sD n):=bM Φ λf _ h=>(TP FU f).trans (by rw[h];funext _ _;simp only[qN,ss])
def abR:ak prog 147 (Qb):=evX func147 (S:=Qc) ay (af ⟨gq,apj⟩) (tys:=[.bool]) (λf x=>AK true (sm ac) (sC f f) x.1) (λx=>by show _=Option.map ac _;rw[TQ FU];simp only[AK,lF,ss])
abbrev jV (C:Type):=tCommit.den→Int→Option C
def my (m:Bool)(K:Bool→Option C)(f:jV C):jV C:=λc i=>let b:=bd i c.2.2.2.1.length;let a:Bool:=!ixs c.2.2.2.1 i<32;cond (i<il c.2.2.2.1) (ck b (nq m [2] a (nm m 2 a b (nq m [2,0] a (cond (cond (ixs c.2.2.2.1 i<32) true (ixs c.2.2.2.1 i>126)) (K false) (fz m tInt (w64 (i+1)) (λg=>f c g))))))) (K true)
def VL (f:(List Int)):Bool:=(lF f).isSome
def bG (f:(List Int)):Bool:=(lF f).getD (zero .bool)
def tp (g:(List Int))(f:Int):Bool:=(oR g f).isSome
def gZ (g:(List Int))(f:Int):Bool:=(oR g f).getD (zero .bool)
def v8 (m:Bool)(K:Bool→Option C)(p:jV C)(c:tCommit.den):Option C:=let o:Bool:=il c.2.1>4;let n:Bool:=!bG c.2.2.1;let l:=gZ c.2.1 c.1;let j:=gZ c.2.2.1 c.1;let d:Bool:=il c.2.2.1>4;cl m .bool (bV c.1) λr1=>let f:=cond (!r1) true (!bG c.2.1);let i:=cond f true n;let e:Bool:=!cond (!r1) true (!bG c.2.1);let a:=cond i true o;let k:=cond a true d;let h:Bool:=!cond a true d;let g:=cond k true l;let b:Bool:=!cond k true l;nq m [2] (!!r1) (nm m 1 (!!r1) (VL c.2.1) (nq m [2,0] (!!r1) (nq m [2] e (nm m 1 e (VL c.2.2.1) (nq m [2,0] e (nq m [2,2,2,0] (!cond f true n) (nq m [2,2,2,0] (!cond i true o) (nq m [2,2] h (nm m 2 h (tp c.2.1 c.1) (nq m [0] h (nq m [2,2] b (nm m 2 b (tp c.2.2.1 c.1) (nq m [0] b (nq m [2,2,2,0] (!cond g true j) (cond (cond (cond g true j) true (il c.2.2.2.1>80)) (K false) (p c 0))))))))))))))))
def oD:Nat→jV Bool:=lp (λ_ _=>none) λf=>my false some f
def mz (c:tCommit.den):Option Bool:=v8 false some (oD FU) c
def Jo:Ent:=evE (.cons tCommit .unit) ac (zero .bool) λx=>mz x.1
def C2:MS:=⟨1,[(0,[.dat tInt,.dat (.slice tInt),.dat (.slice tInt),.dat .str,.dat (.slice aa)])],[(1,.keep),(3,.dat tInt)]⟩
def Jp:Par:=⟨bB.tab,az [(146,eJ),(147,Qb),(17,sI)],λ_=>look [],λ_=>look [(4,C2)]⟩
def Jq:=h12 Jp f104
def oC (f n:Nat):jV AV:=λc i=>aE 0 C2 (Jq f 0 [1,1,0,1,0,0]) (ai 0 (aQ 0 none (Jq f 0 [1,1,1]) i5)) n ⟨mkE 71 [(1,.box 0 0),(3,.val tInt i)],mkH 1 [(0,.box [.val tInt c.1,.val (.slice tInt) c.2.1,.val (.slice tInt) c.2.2.1,.val .str c.2.2.2.1,.val (.slice aa) c.2.2.2.2.1])]⟩
def OU (f g:Nat):oC f (g+1)=my true (sm ac) (oC f g):=Φ
def OV:∀n,oC FU n=mp2 ac (oD n):=bM Φ λf _ h=>(OU FU f).trans (by rw[h];funext _ _;simp only[my,ss])
def XL:ak prog 104 (Jo):=evX func104 (S:=Jp) ay (af ⟨gq,abR,uK,apj⟩) (tys:=[.bool]) (λf x=>v8 true (sm ac) (oC f f) x.1) (λx=>by show _=Option.map ac _;rw[OV FU];simp only[v8,mz,ss])
abbrev lP:=(Ty.den (.cons aN (.cons .bool .unit)))
abbrev ib (C:Type):=Υ→Int→Int→Int→Option C
def eG (m:Bool)(K:lP→Option C)(f:ib C):ib C:=λw id field i=>let b:=bd i w.length;let a:=ix aa w i;cond (i≥0) (ck b (nm m 2 (a.1=id) b (nq m [2,2,3,1] (a.1=id) (cond (cond (a.1=id) (a.2.1=field) false) (ck b (K (a.2.2.1,true,()))) (fz m tInt (w64 (i-1)) (λg=>f w id field g)))))) (K ((0,false,[],0,()),false,()))
def lM (m:Bool)(K:lP→Option C)(f:ib C)(w:Υ)(id:Int)(field:Int):Option C:=fz m tInt (w64 (il w-1)) λg=>f w id field g
def fh:Nat→ib lP:=lp (λ_ _ _ _=>none) λf=>eG false some f
def cq (w:Υ)(id:Int)(field:Int):Option lP:=lM false some (fh FU) w id field
def lN (r:lP):AV :=.tup (bo [.val aN r.1,.val .bool r.2.1])
def lO:Ent:=evE (.cons (.slice aa) (.cons tInt (.cons tInt .unit))) lN (zero (.cons aN (.cons .bool .unit))) λx=>cq x.1 x.2.1 x.2.2.1
def yS:MS:=⟨1,[(0,[.dat tInt,.dat .bool,.dat .str,.dat tInt])],[(0,.dat (.slice aa)),(1,.dat tInt),(2,.dat tInt),(6,.keep),(8,.dat tInt)]⟩
def Ey:Par:=⟨bB.tab,az [],λ_=>look [],λ_=>look [(2,yS)]⟩
def Rr:KT:=bq bB.tab [.cell 6 42,.tmp 7] [aN,.bool]
def Ez:=h12 Ey f64
def kI (f n:Nat):ib AV:=λw id field i=>aE 0 yS (Ez f 0 [1,0,1,0,0]) (ai 0 (aQ 0 none (Ez f 0 [1,1]) Rr)) n ⟨mkE 38 [(0,.val (.slice aa) w),(1,.val tInt id),(2,.val tInt field),(6,.box 0 0),(8,.val tInt i)],mkH 1 [(0,.box [.val tInt (0:Int),.val .bool false,.val .str [],.val tInt (0:Int)])]⟩
def KI (f g:Nat):kI f (g+1)=eG true (sm lN) (kI f g):=Φ
def KJ:∀n,kI FU n=mp4 lN (fh n):=bM Φ λf _ h=>(KI FU f).trans (by rw[h];funext _ _ _ _;simp only[eG,ss])
def ra:ak prog 64 (lO):=evX func64 (S:=Ey) ay (af trivial) (tys:=[aN,.bool]) (λf x=>lM true (sm lN) (kI f f) x.1 x.2.1 x.2.2.1) (λx=>by show _=Option.map lN _;rw[KJ FU];simp only[lM,cq,ss])
def Ec (m:Bool)(K:Int→Option C)(s:ah.den)(id:Int):Option C:=ce m (.slice eL) (ca s id 1) (iU s id 1) λr1=>cond (il r1=0) (K 0) (ck (bd 0 r1.length) (K (ix eL r1 0).2.1.1))
def fZ (s:ah.den)(id:Int):Option Int:=Ec false some s id
def Ax:Ent:=evE (.cons ah (.cons tInt .unit)) av (zero tInt) λx=>fZ x.1 x.2.1
def Vw:Par:=⟨bB.tab,az [(141,Eq)],λ_=>look [],λ_=>look []⟩
def Eb:ak prog 95 (Ax):=evX func95 (S:=Vw) ay (af ⟨M4,apj⟩) (tys:=[tInt]) (λf x=>Ec true (sm av) x.1 x.2.1) (λx=>by show _=Option.map av _;simp only[Ec,fZ,ss])
def wC (m:Bool)(K:Int→Option C)(s:ah.den)(w:Υ)(id:Int):Option C:=cl m tInt (fZ s id) λr1=>cond (!r1=0) (K r1) (cl m (.cons aN (.cons .bool .unit)) (cq w id 1) (λf=>K f.1.1))
def mJ (s:ah.den)(w:Υ)(id:Int):Option Int:=wC false some s w id
def JH:Ent:=evE (.cons ah (.cons (.slice aa) (.cons tInt .unit))) av (zero tInt) λx=>mJ x.1 x.2.1 x.2.2.1
def Yr:Par:=⟨bB.tab,az [(95,Ax),(64,lO)],λ_=>look [],λ_=>look []⟩
def Yq:ak prog 149 (JH):=evX func149 (S:=Yr) ay (af ⟨Eb,ra,apj⟩) (tys:=[tInt]) (λf x=>wC true (sm av) x.1 x.2.1 x.2.2.1) (λx=>by show _=Option.map av _;simp only[wC,mJ,ss])
def mP (m:Bool)(K:Bool→Option C)(f:Int):Option C:=let b:Bool:=!cond (f≥1) (f≤4) false&&f≥8;let a:Bool:=!cond (f≥1) (f≤4) false;nq m [2,1] (f≥1) (nq m [2,2] a (nq m [2] b (nm m 0 a (ii b&&true) (nq m [0] a (K (cond (cond (f≥1) (f≤4) false) true (cond (f≥8) (decide (f<48)) false)))))))
def e8 (f:Int):Option Bool:=mP false some f
def GV:Ent:=evE (.cons tInt .unit) ac (zero .bool) λx=>e8 x.1
def TG:ak prog 148 (GV):=evX func148 (S:=ry) ay (af trivial) (tys:=[.bool]) (λf x=>mP true (sm ac) x.1) (λx=>by show _=Option.map ac _;simp only[mP,e8,ss])
def zn (m:Bool)(K:Bool→Option C)(f:Int)(field:Int)(v:aN.den):Option C:=let a:Bool:=!decide (field=3);(cl m .bool (jj f field v) λr1=>(nq m [3,2] r1 (nq m [2,2] (r1&&(!(!eqD aN v (0,false,[],0,())))) (nq m [2] ((r1&&(!(!eqD aN v (0,false,[],0,()))))&&a) (nm m 0 (r1&&(!(!eqD aN v (0,false,[],0,())))) ((ii ((r1&&(!(!eqD aN v (0,false,[],0,()))))&&a))&&true) (nm m 0 r1 (ii (r1&&(!(!eqD aN v (0,false,[],0,()))))) (nq m [1] r1 (K (bif r1 then(bif (!eqD aN v (0,false,[],0,()))then true else(bif a then(!decide (field=4))else false))else false)))))))))
def pT (f:Int)(field:Int)(v:aN.den):Option Bool:=zn false some f field v
def NY:Ent:=evE (.cons tInt (.cons tInt (.cons aN .unit))) ac (zero .bool) λx=>pT x.1 x.2.1 x.2.2.1
def Z4:Par:=⟨bB.tab,az [(186,Co)],λ_=>look [],λ_=>look []⟩
def Z3:ak prog 150 (NY):=evX func150 (S:=Z4) ay (af ⟨J5,apj⟩) (tys:=[.bool]) (λf x=>zn true (sm ac) x.1 x.2.1 x.2.2.1) (λx=>by show _=Option.map ac _;simp only[zn,pT,ss])
abbrev jy (C:Type):=tCommit.den→aa.den→Int→Option C
def k6 (m:Bool)(K:Int→Option C)(f:aD C):jy C:=λc x g=>cl m (.cons aN (.cons .bool .unit)) (cq c.2.2.2.2.1 x.1 g) λj=>cond (!j.2.1) (K 16) f
def kZ (m:Bool)(K:Int→Option C):aD C:=(K 0)
def YC (f:Int):Bool:=(e8 f).isSome
def wF (f:Int):Bool:=(e8 f).getD (zero .bool)
def sK (m:Bool)(K:Int→Option C)(f:jy C)(g:aD C)(s:ah.den)(c:tCommit.den)(x:aa.den):Option C:=let a:=cond (x.2.2.1.1<1) true (x.2.2.1.1>5);cl m .bool (bV x.1) λr1=>let b:Bool:=!cond (!r1) true (x.1=c.1);nq m [2,2,3,0] (!!r1) (nq m [2] b (nm m 1 b (YC x.2.1) (nq m [2,0] b (cond (cond (cond (!r1) true (x.1=c.1)) true (!wF x.2.1)) (K 5) (cl m tInt (fZ s x.1) (λj=>cond (x.2.1=1) (nq m [2,2,2,0] (!x.2.2.1.1<1) (nq m [2,2,2,2,3,0] (!cond (x.2.2.1.1<1) true (x.2.2.1.1>5)) (nq m [2,2] (!cond a true (!eqD aN x.2.2.1 (x.2.2.1.1,false,[],0,()))) (nq m [2,2,3] (!cond a true (!eqD aN x.2.2.1 (x.2.2.1.1,false,[],0,()))&&!j=0) (nm m 0 (!cond a true (!eqD aN x.2.2.1 (x.2.2.1.1,false,[],0,()))) (ii (!cond a true (!eqD aN x.2.2.1 (x.2.2.1.1,false,[],0,()))&&!j=0)&&true) (nq m [0] (!cond a true (!eqD aN x.2.2.1 (x.2.2.1.1,false,[],0,()))) (cond (cond (cond a true (!eqD aN x.2.2.1 (x.2.2.1.1,false,[],0,()))) true (cond (!j=0) (!j=x.2.2.1.1) false)) (K 10) (cond (j=0) (cond (x.2.2.1.1=5) (f c x 4) (f c x 3)) g)))))))) (cl m tInt (mJ s c.2.2.2.2.1 x.1) (λl=>cond (l=0) (K 7) (cl m .bool (pT l x.2.1 x.2.2.1) (λp=>cond (!p) (K 13) (K 0)))))))))))
def gc:aD Int:=kZ false some
def jA:jy Int:=k6 false some gc
def km (s:ah.den)(c:tCommit.den)(x:aa.den):Option Int:=sK false some jA gc s c x
def Ha:Ent:=evE (.cons ah (.cons tCommit (.cons aa .unit))) av (zero tInt) λx=>km x.1 x.2.1 x.2.2.1
def Im:MS:=⟨3,[(0,[.drop]),(1,[.dat tInt,.dat (.slice tInt),.dat (.slice tInt),.dat .str,.dat (.slice aa)]),(2,[.dat tInt,.dat tInt,.dat tInt,.dat .bool,.dat .str,.dat tInt])],[(4,.keep),(5,.keep),(8,.dat tInt)]⟩
def Hb:Par:=⟨bB.tab,az [(146,eJ),(148,GV),(95,Ax),(149,JH),(150,NY),(64,lO)],λ_=>look [(11,Im),(14,bW)],λ_=>look []⟩
def Hc:KT:=bq bB.tab [.tmp 6] [tInt]
def na:=h12 Hb f106
def pw (f:Nat):jy AV:=λc x g=>na f 0 [1,1,1,0,1,0,1,0,1,0,1,1] ⟨mkE 98 [(4,.box 1 0),(5,.box 2 0),(8,.val tInt g)],mkH 3 [(0,.box [.unk]),(1,.box [.val tInt c.1,.val (.slice tInt) c.2.1,.val (.slice tInt) c.2.2.1,.val .str c.2.2.2.1,.val (.slice aa) c.2.2.2.2.1]),(2,.box [.val tInt x.1,.val tInt x.2.1,.val tInt x.2.2.1.1,.val .bool x.2.2.1.2.1,.val .str x.2.2.1.2.2.1,.val tInt x.2.2.1.2.2.2.1])]⟩ (aQ 0 (some bW) (na f 0 [1,1,1,0,1,0,1,1]) (aQ 0 none (na f 0 [1,1,1,1]) Hc))
def jz (f:Nat):aD AV:=na f 0 [1,1,1,0,1,0,1,1] ⟨mkE 98 [],mkH 0 []⟩ (aQ 0 none (na f 0 [1,1,1,1]) Hc)
def Io (f:Nat):pw f=k6 true (sm av) (jz f):=Φ
def In (f:Nat):jz f=kZ true (sm av):=Φ
def xO:jz FU=mp0 av (gc):=(In FU).trans (by simp only[kZ,gc,ss])
def Ip:pw FU=mp3 av (jA):=(Io FU).trans (by rw[xO];funext _ _ _;simp only[k6,jA,ss])
def T3:ak prog 106 (Ha):=evX func106 (S:=Hb) ay (af ⟨gq,TG,Eb,Yq,Z3,ra,apj⟩) (tys:=[tInt]) (λf x=>sK true (sm av) (pw f) (jz f) x.1 x.2.1 x.2.2.1) (λx=>by show _=Option.map av _;rw[Ip,xO];simp only[sK,km,ss])
def eV (m:Bool)(K:Bool→Option C)(f:bm C):bm C:=λl i=>let e:=ix aa l i;let c:=bd i l.length;let a:=w64 (i-1);let d:=ix aa l a;let b:=bd a l.length;cond (i<il l) (ck b (ck b (ck c (ck c (ce m .bool true (vf d.1 d.2.1 e.1 e.2.1) (λr1=>cond (!r1) (K false) (fz m tInt (w64 (i+1)) (λg=>f l g)))))))) (K true)
def rZ (m:Bool)(K:Bool→Option C)(f:bm C)(l:Υ):Option C:=f l 1
def iK:Nat→bm Bool:=lp (λ_ _=>none) λf=>eV false some f
def jW (l:Υ):Option Bool:=rZ false some (iK FU) l
def F2:Ent:=evE (.cons (.slice aa) .unit) ac (zero .bool) λx=>jW x.1
def F3:Par:=⟨bB.tab,az [(145,xa)],λ_=>look [],λ_=>look [(2,gJ)]⟩
def F4:=h12 F3 f105
def kW (f n:Nat):bm AV:=λl i=>aE 0 gJ (F4 f 0 [1,0,1,0,0]) (ai 0 (aQ 0 none (F4 f 0 [1,1]) i5)) n ⟨mkE 34 [(0,.val (.slice aa) l),(3,.val tInt i)],mkH 0 []⟩
def LO (f g:Nat):kW f (g+1)=eV true (sm ac) (kW f g):=Φ
def LP:∀n,kW FU n=mp2 ac (iK n):=bM Φ λf _ h=>(LO FU f).trans (by rw[h];funext _ _;simp only[eV,ss])
def SO:ak prog 105 (F2):=evX func105 (S:=F3) ay (af ⟨M8,apj⟩) (tys:=[.bool]) (λf x=>rZ true (sm ac) (kW f f) x.1) (λx=>by show _=Option.map ac _;rw[LP FU];simp only[rZ,jW,ss])
abbrev kn (C:Type):=ah.den→tCommit.den→Int→Option C
def nc (m:Bool)(K:Int→Option C)(f:kn C):kn C:=λs c i=>cond (i<il c.2.2.2.2.1) (ck (bd i c.2.2.2.2.1.length) (cl m tInt (km s c (ix aa c.2.2.2.2.1 i)) (λj=>cond (!j=0) (K j) (fz m tInt (w64 (i+1)) (λg=>f s c g))))) (K 0)
def wN (m:Bool)(K:Int→Option C)(f:kn C)(s:ah.den)(c:tCommit.den):Option C:=cl m .bool (mz c) λr1=>cond (!r1) (K 5) (cl m .bool (jW c.2.2.2.2.1) (λg=>cond (!g) (K 12) (f s c 0)))
def oT:Nat→kn Int:=lp (λ_ _ _=>none) λf=>nc false some f
def ng (s:ah.den)(c:tCommit.den):Option Int:=wN false some (oT FU) s c
def JY:Ent:=evE (.cons ah (.cons tCommit .unit)) av (zero tInt) λx=>ng x.1 x.2.1
def Di:MS:=⟨2,[(0,[.dat (.slice ag)]),(1,[.dat tInt,.dat (.slice tInt),.dat (.slice tInt),.dat .str,.dat (.slice aa)])],[(2,.keep),(3,.keep),(5,.dat tInt)]⟩
def JZ:Par:=⟨bB.tab,az [(104,Jo),(105,F2),(106,Ha)],λ_=>look [],λ_=>look [(6,Di)]⟩
def Cn:KT:=bq bB.tab [.tmp 4] [tInt]
def J0:=h12 JZ f56
def oS (f n:Nat):kn AV:=λs c i=>aE 0 Di (J0 f 0 [1,1,1,0,1,0,0]) (ai 0 (aQ 0 none (J0 f 0 [1,1,1,1]) Cn)) n ⟨mkE 32 [(2,.box 0 0),(3,.box 1 0),(5,.val tInt i)],mkH 2 [(0,.box [.val (.slice ag) s.1]),(1,.box [.val tInt c.1,.val (.slice tInt) c.2.1,.val (.slice tInt) c.2.2.1,.val .str c.2.2.2.1,.val (.slice aa) c.2.2.2.2.1])]⟩
def Qq (f g:Nat):oS f (g+1)=nc true (sm av) (oS f g):=Φ
def Qr:∀n,oS FU n=mp3 av (oT n):=bM Φ λf _ h=>(Qq FU f).trans (by rw[h];funext _ _ _;simp only[nc,ss])
def YP:ak prog 56 (JY):=evX func56 (S:=JZ) ay (af ⟨XL,SO,T3,apj⟩) (tys:=[tInt]) (λf x=>wN true (sm av) (oS f f) x.1 x.2.1) (λx=>by show _=Option.map av _;rw[Qr FU];simp only[wN,ng,ss])
abbrev iQ:=(Ty.den (.cons tCommit (.cons .bool .unit)))
abbrev cT (C:Type):=Λ→Int→Int→Option C
def qU (m:Bool)(K:iQ→Option C)(g:cT C):cT C:=λl f i=>let a:=bd i l.length;cond (i<il l) (ck a (cond ((ix tCommit l i).1=f) (ck a (K (ix tCommit l i,true,()))) (fz m tInt (w64 (i+1)) (λj=>g l f j)))) (K ((0,[],[],[],[],()),false,()))
def AZ (m:Bool)(K:iQ→Option C)(g:cT C)(l:Λ)(f:Int):Option C:=g l f 0
def sN:Nat→cT iQ:=lp (λ_ _ _=>none) λf=>qU false some f
def lH (l:Λ)(f:Int):Option iQ:=AZ false some (sN FU) l f
def ku (r:iQ):AV :=.tup (bo [.val tCommit r.1,.val .bool r.2.1])
def Hg:Ent:=evE (.cons (.slice tCommit) (.cons tInt .unit)) ku (zero (.cons tCommit (.cons .bool .unit))) λx=>lH x.1 x.2.1
def Hf:MS:=⟨1,[(0,[.dat tInt,.own tInt 3,.own tInt 3,.dat .str,.own aa 44])],[(0,.dat (.slice tCommit)),(1,.dat tInt),(4,.keep),(6,.dat tInt)]⟩
def Qw:Par:=⟨bB.tab,az [],λ_=>look [],λ_=>look [(2,Hf)]⟩
def aci:KT:=bq bB.tab [.cell 4 38,.tmp 5] [tCommit,.bool]
def Qx:=h12 Qw f45
def sM (f n:Nat):cT AV:=λl g i=>aE 0 Hf (Qx f 0 [1,0,1,0,0]) (ai 0 (aQ 0 none (Qx f 0 [1,1]) aci)) n ⟨mkE 25 [(0,.val (.slice tCommit) l),(1,.val tInt g),(4,.box 0 0),(6,.val tInt i)],mkH 4 [(0,.box [.val tInt (0:Int),.own 1 0 tInt [],.own 2 0 tInt [],.val .str [],.own 3 0 aa []]),(1,.row tInt 3 0),(2,.row tInt 3 0),(3,.row aa 44 0)]⟩
def T5 (f g:Nat):sM f (g+1)=qU true (sm ku) (sM f g):=Φ
def T6:∀n,sM FU n=mp3 ku (sN n):=bM Φ λf _ h=>(T5 FU f).trans (by rw[h];funext _ _ _;simp only[qU,ss])
def Qv:ak prog 45 (Hg):=evX func45 (S:=Qw) ay (af trivial) (tys:=[tCommit,.bool]) (λf x=>AZ true (sm ku) (sM f f) x.1 x.2.1) (λx=>by show _=Option.map ku _;rw[T6 FU];simp only[AZ,lH,ss])
abbrev u5 (C:Type):=Λ→(List Int)→Nat→(List Int)→Option C
def Bx (m:Bool)(K:(List Int)→Option C)(j:u5 C):u5 C:=λl out f g=>let b:=ni f-1;let c:=w64 b;let a:=List.getD g (0+Int.toNat c) (zero tInt);cond (ni f>0) (ck (0≤w64 b&&w64 b<ni f) (ck (0≤w64 b&&w64 b≤ni f) (cl m (.cons tCommit (.cons .bool .unit)) (lH l a) (λr1=>nm m 2 (!!r1.2.1) (tp out a) (nq m [0] (!!r1.2.1) (cond (cond (!r1.2.1) true (gZ out a)) (fm m (0+Int.toNat c) (λp=>j l out p g)) (cl m (.slice tInt) (iI out a) (λJ=>ck (lm (0+Int.toNat c+List.length r1.1.2.1)) (fm m (0+Int.toNat c+List.length r1.1.2.1) (λp=>fz m (.slice tInt) (List.take (0+Int.toNat c) g++r1.1.2.1) λr=>j l J p r)))))))))) (K out)
def M2 (m:Bool)(K:(List Int)→Option C)(g:u5 C)(l:Λ)(f:(List Int)):Option C:=ck (lm (0+List.length f)) (fm m (0+List.length f) (λp=>fz m (.slice tInt) (List.take 0 []++f) λj=>g l [] p j))
def Bw:Nat→u5 (List Int):=lp (λ_ _ _ _=>none) λf=>Bx false some f
def pa (l:Λ)(f:(List Int)):Option (List Int):=M2 false some (Bw FU) l f
def M3:Ent:=evE (.cons (.slice tCommit) (.cons (.slice tInt) .unit)) ap (zero (.slice tInt)) λx=>pa x.1 x.2.1
def Rj:MS:=⟨0,[],[(0,.dat (.slice tCommit)),(5,.dat (.slice tInt)),(6,.mut tInt 3)]⟩
def adF:Par:=⟨NW.tab,az [(45,Hg),(17,sI),(19,BX)],λ_=>look [],λ_=>look [(3,Rj)]⟩
def aiZ:KT:=bq NW.tab [.tmp 4] [(.slice tInt)]
def adG:=h12 adF f93
def Bv (g n:Nat):u5 AV:=λl out f j=>aE 0 Rj (adG g 0 [1,1,1,0,0,0]) (ai 0 (aQ 0 none (adG g 0 [1,1,1,1]) aiZ)) n ⟨mkE 48 [(0,.val (.slice tCommit) l),(5,.val (.slice tInt) out),(6,.msl 0 0 0 f)],mkH 1 [(0,.mrow tInt 3 0 j)]⟩
def adD (f g:Nat):Bv f (g+1)=Bx true (sm ap) (Bv f g):=Φ
def adE:∀n,Bv FU n=mp4 ap (Bw n):=bM Φ λf _ h=>(adD FU f).trans (by rw[h];funext _ _ _ _;simp only[Bx,ss])
def Ut:ak prog 93 (M3):=evX func93 (S:=adF) NV (af ⟨Qv,uK,FL,apj⟩) (tys:=[(.slice tInt)]) (λf x=>M2 true (sm ap) (Bv f f) x.1 x.2.1) (λx=>by show _=Option.map ap _;rw[adE FU];simp only[M2,pa,ss])
def ajE (g:Λ)(f:(List Int)):Bool:=(pa g f).isSome
def ag9 (g:Λ)(f:(List Int)):(List Int):=(pa g f).getD (zero (.slice tInt))
def wY (m:Bool)(K:Bool→Option C)(l:Λ)(a:Int)(b:Int):Option C:=let d:=ag9 l [b];let c:Bool:=!a=b;nq m [1] c (nm m 2 c (ajE l [b]) (nm m 2 c (tp d a) (nq m [1] c (K (cond c (gZ d a) false)))))
def nD (l:Λ)(a:Int)(b:Int):Option Bool:=wY false some l a b
def KC:Ent:=evE (.cons (.slice tCommit) (.cons tInt (.cons tInt .unit))) ac (zero .bool) λx=>nD x.1 x.2.1 x.2.2.1
def Zf:Par:=⟨bB.tab,az [(93,M3),(17,sI)],λ_=>look [],λ_=>look []⟩
def Ze:ak prog 91 (KC):=evX func91 (S:=Zf) ay (af ⟨Ut,uK,apj⟩) (tys:=[.bool]) (λf x=>wY true (sm ac) x.1 x.2.1 x.2.2.1) (λx=>by show _=Option.map ac _;simp only[wY,nD,ss])
abbrev aI (C:Type):=Λ→(List Int)→(List Int)→Int→Option C
abbrev lk (C:Type):=Λ→(List Int)→(List Int)→Int→Bool→Int→Option C
abbrev WV (C:Type):=Λ→(List Int)→(List Int)→Int→Int→Bool→Option C
abbrev IZ (C:Type):=Λ→(List Int)→Int→(List Int)→Option C
def tK (m:Bool)(K:(List Int)→Option C)(g:lk C):aI C:=λl f out i=>cond (i<il f) (ck (bd i f.length) (cl m (.cons tCommit (.cons .bool .unit)) (lH l (ix tInt f i)) (λr1=>g l f out i r1.2.1 0))) (K out)
def pR (m:Bool)(K:(List Int)→Option C)(g:lk C):WV C:=λl f out i p ok=>fz m tInt (w64 (p+1)) λj=>g l f out i ok j
def pS (m:Bool)(K:(List Int)→Option C)(g:aI C):IZ C:=λl f i out=>fz m tInt (w64 (i+1)) λj=>g l f out j
def tJ (m:Bool)(K:(List Int)→Option C)(g:lk C)(j:aI C):lk C:=λl f out i ok p=>let b:=ix tInt f i;let a:=bd i f.length;nq m [2,3,1] ok (cond (cond ok (p<il f) false) (ck a (ck (bd p f.length) (cl m .bool (nD l b (ix tInt f p)) (λJ=>cond J (pR m K g l f out i p false) (pR m K g l f out i p ok))))) (cond ok (ck a (cl m (.slice tInt) (iI out b) (λr=>pS m K j l f i r))) (pS m K j l f i out)))
def DJ (m:Bool)(K:(List Int)→Option C)(g:aI C)(l:Λ)(f:(List Int)):Option C:=g l f [] 0
def pP (g:aI (List Int)):Nat→lk (List Int):=lp (λ_ _ _ _ _ _=>none) λf=>tJ false some f g
def vI:Nat→aI (List Int):=lp (λ_ _ _ _=>none) λf=>tK false some (pP f FU)
def tL (l:Λ)(f:(List Int)):Option (List Int):=DJ false some (vI FU) l f
def UJ:Ent:=evE (.cons (.slice tCommit) (.cons (.slice tInt) .unit)) ap (zero (.slice tInt)) λx=>tL x.1 x.2.1
def db:MS:=⟨0,[],[(0,.dat (.slice tCommit)),(1,.dat (.slice tInt)),(5,.dat (.slice tInt)),(6,.dat tInt)]⟩
def BM:MS:=⟨0,[],[(0,.dat (.slice tCommit)),(1,.dat (.slice tInt)),(5,.dat (.slice tInt)),(6,.dat tInt),(8,.dat .bool),(9,.dat tInt)]⟩
def UK:Par:=⟨bB.tab,az [(45,Hg),(91,KC),(19,BX)],λ_=>look [(8,BM),(4,db)],λ_=>look [(3,db),(7,BM)]⟩
def rA:=h12 UK f52
def pQ (g n:Nat):aI AV:=λl f out i=>aE 0 db (rA g 0 [1,1,0,1,0,0]) (ai 0 (aQ 0 none (rA g 0 [1,1,1]) wX)) n ⟨mkE 52 [(0,.val (.slice tCommit) l),(1,.val (.slice tInt) f),(5,.val (.slice tInt) out),(6,.val tInt i)],mkH 0 []⟩
def vH (f p n:Nat):lk AV:=λl g out i ok j=>aE 0 BM (rA f 0 [1,1,0,1,0,0,1,0,0,1,0,1,0,0]) (ai 2 (aQ 0 none (rA f 0 [1,1,0,1,0,0,1,0,0,1,1]) (ai 1 (aQ 0 (some db) (rA f 0 [1,1,0,1,0,0,1,1]) (kLp 0 db (rA f 0 [1,1,0,1,0,0]) (ai 0 (aQ 0 none (rA f 0 [1,1,1]) wX)) p))))) n ⟨mkE 52 [(0,.val (.slice tCommit) l),(1,.val (.slice tInt) g),(5,.val (.slice tInt) out),(6,.val tInt i),(8,.val .bool ok),(9,.val tInt j)],mkH 0 []⟩
def WY (f g:Nat):pQ f (g+1)=tK true (sm ap) (vH f g f):=Φ
def WW (f g j:Nat):vH f g (j+1)=tJ true (sm ap) (vH f g j) (pQ f g):=Φ
def WX (j:Nat){f:aI (List Int)}(g:pQ FU j=mp4 ap f):∀n,vH FU j n=mp6 ap (pP f n):=bM Φ λl _ h=>(WW FU j l).trans (by rw[h,g];funext _ _ _ _ _ _;simp only[tJ,pS,pR,ss])
def WZ:∀n,pQ FU n=mp4 ap (vI n):=bM Φ λf _ h=>(WY FU f).trans (by rw[WX f h FU];funext _ _ _ _;simp only[tK,pS,pR,ss])
def ad2:ak prog 52 (UJ):=evX func52 (S:=UK) ay (af ⟨Qv,Ze,FL,apj⟩) (tys:=[(.slice tInt)]) (λf x=>DJ true (sm ap) (pQ f f) x.1 x.2.1) (λx=>by show _=Option.map ap _;rw[WZ FU];simp only[DJ,tL,pS,pR,ss])
abbrev dL (C:Type):=Λ→(List Int)→Int→Option C
abbrev mU (C:Type):=Λ→(List Int)→Int→Bool→Int→Option C
abbrev TT (C:Type):=Λ→Int→(List Int)→Option C
def qQ (m:Bool)(K:(List Int)→Option C)(f:mU C):dL C:=λl out i=>cond (i<il l) (f l out i true 0) (K out)
def lG (m:Bool)(K:(List Int)→Option C)(f:dL C):TT C:=λl i out=>fz m tInt (w64 (i+1)) λg=>f l out g
def qP (m:Bool)(K:(List Int)→Option C)(g:mU C)(f:dL C):mU C:=λl out i head j=>let c:=bd i l.length;let b:=ix tCommit l j;let a:=ix tCommit l i;cond (j<il l) (nm m 2 head (bd j l.length) (nq m [2,2] head (nm m 2 head c (nq m [2,2] head (nm m 2 head (tp b.2.1 a.1) (nq m [2,1] head (fz m .bool (cond head (!gZ b.2.1 a.1) false) (λr=>fz m tInt (w64 (j+1)) λp=>g l out i r p)))))))) (cond head (ck c (ck (lm (List.length out+List.length ([a.1]:List Int))) (fz m (.slice tInt) (out++[a.1]) (λJ=>lG m K f l i J)))) (lG m K f l i out))
def AL (m:Bool)(K:(List Int)→Option C)(f:dL C)(l:Λ):Option C:=f l [] 0
def mW (g:dL (List Int)):Nat→mU (List Int):=lp (λ_ _ _ _ _=>none) λf=>qP false some f g
def sH:Nat→dL (List Int):=lp (λ_ _ _=>none) λf=>qQ false some (mW f FU)
def qR (l:Λ):Option (List Int):=AL false some (sH FU) l
def Qg:Ent:=evE (.cons (.slice tCommit) .unit) ap (zero (.slice tInt)) λx=>qR x.1
def mV:MS:=⟨0,[],[(0,.dat (.slice tCommit)),(3,.own tInt 3),(4,.dat tInt)]⟩
def G6:MS:=⟨0,[],[(0,.dat (.slice tCommit)),(3,.own tInt 3),(4,.dat tInt),(5,.dat .bool),(6,.dat tInt)]⟩
def Qh:Par:=⟨bB.tab,az [(17,sI)],λ_=>look [(4,mV)],λ_=>look [(3,mV),(7,G6)]⟩
def mY:=h12 Qh f151
def mX (f n:Nat):dL AV:=λl out i=>aE 0 mV (mY f 0 [1,1,0,1,0,0]) (ai 0 (aQ 0 none (mY f 0 [1,1,1]) Mk)) n ⟨mkE 44 [(0,.val (.slice tCommit) l),(3,.own 0 0 tInt out),(4,.val tInt i)],mkH 1 [(0,.row tInt 3 0)]⟩
def sG (f j n:Nat):mU AV:=λl out i head g=>aE 0 G6 (mY f 0 [1,1,0,1,0,0,1,0,0,1,0,1,0,0]) (ai 2 (aQ 0 none (mY f 0 [1,1,0,1,0,0,1,0,0,1,1]) (ai 1 (aQ 0 (some mV) (mY f 0 [1,1,0,1,0,0,1,1]) (kLp 0 mV (mY f 0 [1,1,0,1,0,0]) (ai 0 (aQ 0 none (mY f 0 [1,1,1]) Mk)) j))))) n ⟨mkE 44 [(0,.val (.slice tCommit) l),(3,.own 0 0 tInt out),(4,.val tInt i),(5,.val .bool head),(6,.val tInt g)],mkH 1 [(0,.row tInt 3 0)]⟩
def TX (f g:Nat):mX f (g+1)=qQ true (sm ap) (sG f g f):=Φ
def TU (f g j:Nat):sG f g (j+1)=qP true (sm ap) (sG f g j) (mX f g):=Φ
def TW (j:Nat){f:dL (List Int)}(g:mX FU j=mp3 ap f):∀n,sG FU j n=mp5 ap (mW f n):=bM Φ λl _ h=>(TU FU j l).trans (by rw[h,g];funext _ _ _ _ _;simp only[qP,lG,ss])
def TY:∀n,mX FU n=mp3 ap (sH n):=bM Φ λf _ h=>(TX FU f).trans (by rw[TW f h FU];funext _ _ _;simp only[qQ,lG,ss])
def abU:ak prog 151 (Qg):=evX func151 (S:=Qh) ay (af ⟨uK,apj⟩) (tys:=[(.slice tInt)]) (λf x=>AL true (sm ap) (mX f f) x.1) (λx=>by show _=Option.map ap _;rw[TY FU];simp only[AL,qR,lG,ss])
def nP (m:Bool)(K:Bool→Option C)(c:tCommit.den)(id:Int)(field:Int):Option C:=cl m (.cons aN (.cons .bool .unit)) (cq c.2.2.2.2.1 id field) λr1=>K r1.2.1
def fk (c:tCommit.den)(id:Int)(field:Int):Option Bool:=nP false some c id field
def CH:Ent:=evE (.cons tCommit (.cons tInt (.cons tInt .unit))) ac (zero .bool) λx=>fk x.1 x.2.1 x.2.2.1
def Ni:Par:=⟨bB.tab,az [(64,lO)],λ_=>look [],λ_=>look []⟩
def Nh:ak prog 140 (CH):=evX func140 (S:=Ni) ay (af ⟨ra,apj⟩) (tys:=[.bool]) (λf x=>nP true (sm ac) x.1 x.2.1 x.2.2.1) (λx=>by show _=Option.map ac _;simp only[nP,fk,ss])
abbrev gN (C:Type):=Λ→(List Int)→Λ→(List (List Int))→Int→Option C
abbrev OD (C:Type):=Λ→(List Int)→Int→Λ→(List (List Int))→Option C
abbrev bD (C:Type):=Λ→(List (List Int))→Int→(List ag.den)→Option C
abbrev bS (C:Type):=Λ→(List (List Int))→Int→Int→(List ag.den)→Option C
abbrev iB (C:Type):=Λ→(List (List Int))→Int→Int→(List ag.den)→Bool→Int→Option C
def eU (m:Bool)(K:ah.den→Option C)(j:gN C):OD C:=λl r i f g=>fz m tInt (w64 (i+1)) λp=>j l r f g p
def mt (m:Bool)(K:ah.den→Option C)(j:gN C)(J:bD C):gN C:=λl p f g i=>let b:=ix tCommit l i;let a:=bd i l.length;cond (i<il l) (ck a (cl m .bool (oR p b.1) (λr1=>cond r1 (ck a (ck (lm (List.length f+List.length ([ix tCommit l i]:List tCommit.den))) (ck a (cl m (.slice tInt) (pa l [b.1]) (λR=>ck (lm (List.length g+List.length ([R]:List (List Int)))) (fz m (.slice tCommit) (f++[ix tCommit l i]) (λP=>fz m (.slice (.slice tInt)) (g++[R]) λr=>eU m K j l p i P r))))))) (eU m K j l p i f g)))) (J f g 0 [])
def jT (m:Bool)(K:ah.den→Option C)(j:bS C):bD C:=λf l i g=>cond (i<il f) (j f l i 0 g) (K (g,()))
def jS (m:Bool)(K:ah.den→Option C)(p:iB C)(J:bD C):bS C:=λf g i l j=>let b:=bd i f.length;let a:=ix tCommit f i;ck b (cond (l<il a.2.2.2.2.1) (ck b (ck (bd l a.2.2.2.2.1.length) (p f g i l j true 0))) (fz m tInt (w64 (i+1)) (λr=>J f g r j)))
def dw (m:Bool)(K:ah.den→Option C)(g:bS C):bS C:=λf j i r l=>fz m tInt (w64 (r+1)) λp=>g f j i p l
def EA (j:tCommit.den)(g:Int)(f:Int):Bool:=(fk j g f).isSome
def eI (j:tCommit.den)(g:Int)(f:Int):Bool:=(fk j g f).getD (zero .bool)
def jR (m:Bool)(K:ah.den→Option C)(T:iB C)(J:bS C):iB C:=λl p i R r P j=>let h:Bool:=!j=i;let f:=bd i l.length;let e:=ix (.slice tInt) p j;let d:=ix tCommit l j;let c:=ix tCommit l i;let a:=ix aa c.2.2.2.2.1 R;let g:Bool:=!eI d a.1 a.2.1;let b:Bool:=!cond (j=i) true g;nq m [1] (j<il l) (cond (cond (j<il l) P false) (nm m 2 h (bd j l.length) (nq m [2,2,2] h (nm m 3 h (EA d a.1 a.2.1) (nq m [2,0] h (nm m 2 b (bd j p.length) (nq m [2] b (nm m 2 b f (nq m [2,2] b (nm m 2 b (tp e c.1) (nq m [2,0] b (fz m .bool (cond (cond (j=i) true g) true (!gZ e c.1)) (λy5_=>fz m tInt (w64 (j+1)) λy6_=>T l p i R r y5_ y6_)))))))))))) (cond P (ce m (.slice eL) (ca (r,()) a.1 a.2.1) (iU (r,()) a.1 a.2.1) (λU=>ck (lm (List.length ([]:List eL.den)+List.length U)) (ck f (ck (lm (List.length ([]++U)+List.length ([(c.1,a.2.2.1,())]:List eL.den))) (ce m ah (aem (r,()) a.1 a.2.1 ([]++U++[(c.1,a.2.2.1,())])) (pj (r,()) a.1 a.2.1 ([]++U++[(c.1,a.2.2.1,())])) (λr4=>dw m K J l p i R r4.1)))))) (dw m K J l p i R r)))
def vZ (m:Bool)(K:ah.den→Option C)(f:gN C)(l:Λ)(g:(List Int)):Option C:=f l g [] [] 0
def iD (J:bD ah.den)(g:bS ah.den):Nat→iB ah.den:=lp (λ_ _ _ _ _ _ _=>none) λf=>jR false some f g
def iF (J:bD ah.den):Nat→bS ah.den:=lp (λ_ _ _ _ _=>none) λf=>jS false some (iD J f FU) J
def iG:Nat→bD ah.den:=lp (λ_ _ _ _=>none) λJ=>jT false some (iF J FU)
def jQ:Nat→gN ah.den:=lp (λ_ _ _ _ _=>none) λf=>mt false some f (iG FU)
def mv (l:Λ)(f:(List Int)):Option ah.den:=vZ false some (jQ FU) l f
def bk (r:ah.den):AV :=.val ah r
def Jg:Ent:=evE (.cons (.slice tCommit) (.cons (.slice tInt) .unit)) bk (zero ah) λx=>mv x.1 x.2.1
def ub:MS:=⟨1,[(0,[.dat (.slice ag)])],[(0,.dat (.slice tCommit)),(1,.dat (.slice tInt)),(4,.keep),(5,.own tCommit 38),(6,.own (.slice tInt) 23),(7,.dat tInt)]⟩
def kS:MS:=⟨8,[(0,[.dat (.slice ag)]),(7,[.dat (.slice ag)])],[(4,.keep),(5,.own tCommit 38),(6,.own (.slice tInt) 23),(8,.keep),(9,.dat tInt)]⟩
def iC:MS:=⟨8,[(0,[.dat (.slice ag)]),(7,[.dat (.slice ag)])],[(4,.keep),(5,.own tCommit 38),(6,.own (.slice tInt) 23),(8,.keep),(9,.dat tInt),(10,.dat tInt)]⟩
def zH:MS:=⟨27,[(0,[.dat (.slice ag)]),(7,[.dat (.slice ag)]),(26,[.dat tInt,.dat tInt,.dat tInt,.dat .bool,.dat .str,.dat tInt])],[(4,.keep),(5,.own tCommit 38),(6,.own (.slice tInt) 23),(8,.keep),(9,.dat tInt),(10,.dat tInt),(11,.keep),(12,.dat .bool),(13,.dat tInt)]⟩
def Jh:Par:=⟨bB.tab,az [(17,sI),(93,M3),(140,CH),(141,Eq),(142,Sa)],λ_=>look [(5,ub),(15,iC)],λ_=>look [(4,ub),(11,kS),(14,iC),(19,zH)]⟩
def v6:KT:=bq bB.tab [.cell 4 96] [ah]
def bP:=h12 Jh f92
def ow (f n:Nat):gN AV:=λl p g j i=>aE 0 ub (bP f 0 [1,1,1,0,1,0,0]) (ai 0 (aQ 0 none (bP f 0 [1,1,1,1]) v6)) n ⟨mkE 134 [(0,.val (.slice tCommit) l),(1,.val (.slice tInt) p),(4,.box 0 0),(5,.own 1 0 tCommit g),(6,.own 2 0 (.slice tInt) j),(7,.val tInt i)],mkH 3 [(0,.box [.val (.slice ag) []]),(1,.row tCommit 38 0),(2,.row (.slice tInt) 23 0)]⟩
def fw (f n:Nat):bD AV:=λg j i l=>aE 0 kS (bP f 0 [1,1,1,1,1,0,1,0,0]) (ai 2 (aQ 0 none (bP f 0 [1,1,1,1,1,1]) v6)) n ⟨mkE 134 [(4,.box 0 0),(5,.own 8 0 tCommit g),(6,.own 9 0 (.slice tInt) j),(8,.box 7 0),(9,.val tInt i)],mkH 10 [(0,.box [.val (.slice ag) []]),(1,.row tCommit 38 1),(2,.row (.slice tInt) 23 1),(7,.box [.val (.slice ag) l]),(8,.row tCommit 38 0),(9,.row (.slice tInt) 23 0)]⟩
def iE (f r n:Nat):bS AV:=λg j i p l=>aE 0 iC (bP f 0 [1,1,1,1,1,0,1,0,0,1,0,0,1,0,0]) (ai 4 (ai 3 (aQ 0 none (bP f 0 [1,1,1,1,1,0,1,0,0,1,1]) (kLp 0 kS (bP f 0 [1,1,1,1,1,0,1,0,0]) (ai 2 (aQ 0 none (bP f 0 [1,1,1,1,1,1]) v6)) r)))) n ⟨mkE 134 [(4,.box 0 0),(5,.own 8 0 tCommit g),(6,.own 9 0 (.slice tInt) j),(8,.box 7 0),(9,.val tInt i),(10,.val tInt p)],mkH 10 [(0,.box [.val (.slice ag) []]),(1,.row tCommit 38 1),(2,.row (.slice tInt) 23 1),(7,.box [.val (.slice ag) l]),(8,.row tCommit 38 0),(9,.row (.slice tInt) 23 0)]⟩
def kT (f P J n:Nat):iB AV:=λg p i r C l j=>let a:=ix aa (ix tCommit g i).2.2.2.2.1 r;aE 0 zH (bP f 0 [1,1,1,1,1,0,1,0,0,1,0,0,1,0,0,1,0,0,1,1,0,1,0,0]) (ai 6 (aQ 0 none (bP f 0 [1,1,1,1,1,0,1,0,0,1,0,0,1,0,0,1,0,0,1,1,1]) (ai 5 (aQ 0 (some iC) (bP f 0 [1,1,1,1,1,0,1,0,0,1,0,0,1,0,0,1,1]) (kLp 0 iC (bP f 0 [1,1,1,1,1,0,1,0,0,1,0,0,1,0,0]) (ai 4 (ai 3 (aQ 0 none (bP f 0 [1,1,1,1,1,0,1,0,0,1,1]) (kLp 0 kS (bP f 0 [1,1,1,1,1,0,1,0,0]) (ai 2 (aQ 0 none (bP f 0 [1,1,1,1,1,1]) v6)) P)))) J))))) n ⟨mkE 134 [(4,.box 0 0),(5,.own 27 0 tCommit g),(6,.own 28 0 (.slice tInt) p),(8,.box 7 0),(9,.val tInt i),(10,.val tInt r),(11,.box 26 0),(12,.val .bool l),(13,.val tInt j)],mkH 29 [(0,.box [.val (.slice ag) []]),(1,.row tCommit 38 1),(2,.row (.slice tInt) 23 1),(7,.box [.val (.slice ag) C]),(8,.row tCommit 38 1),(9,.row (.slice tInt) 23 1),(26,.box [.val tInt a.1,.val tInt a.2.1,.val tInt a.2.2.1.1,.val .bool a.2.2.1.2.1,.val .str a.2.2.1.2.2.1,.val tInt a.2.2.1.2.2.2.1]),(27,.row tCommit 38 0),(28,.row (.slice tInt) 23 0)]⟩
def OE (f g:Nat):ow f (g+1)=mt true (sm bk) (ow f g) (fw f f):=Φ
def Lx (f g:Nat):fw f (g+1)=jT true (sm bk) (iE f g f):=Φ
def Lv (f g j:Nat):iE f g (j+1)=jS true (sm bk) (kT f g j f) (fw f g):=Φ
def Lt (f j g l:Nat):kT f j g (l+1)=jR true (sm bk) (kT f j g l) (iE f j g):=Φ
variable{J:bD ah.den}
def Lu (g j:Nat)(r:fw FU g=mp4 bk J){f:bS ah.den}(l:iE FU g j=mp5 bk f):∀n,kT FU g j n=mp7 bk (iD J f n):=bM Φ λp _ h=>(Lt FU g j p).trans (by rw[h,l];funext _ _ _ _ _ _ _;simp only[jR,dw,eU,ss])
def Lw (g:Nat)(f:fw FU g=mp4 bk J):∀n,iE FU g n=mp5 bk (iF J n):=bM Φ λj _ h=>(Lv FU g j).trans (by rw[Lu g j f h FU,f];funext _ _ _ _ _;simp only[jS,dw,eU,ss])
def Ly:∀n,fw FU n=mp4 bk (iG n):=bM Φ λf _ h=>(Lx FU f).trans (by rw[Lw f h FU];funext _ _ _ _;simp only[jT,dw,eU,ss])
def OF:∀n,ow FU n=mp5 bk (jQ n):=bM Φ λf _ h=>(OE FU f).trans (by rw[h,Ly FU];funext _ _ _ _ _;simp only[mt,dw,eU,ss])
def XF:ak prog 92 (Jg):=evX func92 (S:=Jh) ay (af ⟨uK,Ut,Nh,M4,ahx,apj⟩) (tys:=[ah]) (λf x=>vZ true (sm bk) (ow f f) x.1 x.2.1) (λx=>by show _=Option.map bk _;rw[OF FU];simp only[vZ,mv,dw,eU,ss])
def Ep (m:Bool)(K:ah.den→Option C)(l:Λ)(f:(List Int)):Option C:=cl m (.slice tInt) (pa l f) λr1=>cl m ah (mv l r1) λg=>K g
def qX (l:Λ)(f:(List Int)):Option ah.den:=Ep false some l f
def MY:Ent:=evE (.cons (.slice tCommit) (.cons (.slice tInt) .unit)) bk (zero ah) λx=>qX x.1 x.2.1
def agz:Par:=⟨bB.tab,az [(93,M3),(92,Jg)],λ_=>look [],λ_=>look []⟩
def Wk:ak prog 53 (MY):=evX func53 (S:=agz) ay (af ⟨Ut,XF,apj⟩) (tys:=[ah]) (λf x=>Ep true (sm bk) x.1 x.2.1) (λx=>by show _=Option.map bk _;simp only[Ep,qX,ss])
def DH (m:Bool)(K:Str→Option C)(f:Int)(x:Int):Option C:=let a:=cond (f=1) true (f=3);nq m [2,0] (!f=1) (cl m tInt (mod2_ev x 5) (λr1=>cond (r1=0) (cond a (K [77]) (K [102])) (cond (r1=1) (cond a (K [78]) (K [103])) (cond (r1=2) (cond a (K [84]) (K [120])) (cond (r1=3) (cond a (K [65,98,49]) (K [121])) (cond a (K [81]) (K [107,95,50])))))))
def jF (f:Int)(x:Int):Option Str:=DH false some f x
def kL (r:Str):AV :=.val .str r
def KX:Ent:=evE (.cons tInt (.cons tInt .unit)) kL (zero .str) λx=>jF x.1 x.2.1
def DI:Par:=⟨bB.tab,az [(18,yu)],λ_=>look [],λ_=>look []⟩
def UE:ak prog 96 (KX):=evX func96 (S:=DI) ay (af ⟨mod2_x,apj⟩) (tys:=[.str]) (λf x=>DH true (sm kL) x.1 x.2.1) (λx=>by show _=Option.map kL _;simp only[DH,jF,ss])
def vG (m:Bool)(K:Str→Option C)(x:Int):Option C:=cl m tInt (mod2_ev x 5) λr1=>cond (r1=0) (K [32]) (cond (r1=1) (K [10]) (cond (r1=2) (K [32,35,32,110,111,116,101,10]) (cond (r1=3) (K []) (K [9,32,32]))))
def l6 (x:Int):Option Str:=vG false some x
def IY:Ent:=evE (.cons tInt .unit) kL (zero .str) λx=>l6 x.1
def WS:ak prog 99 (IY):=evX func99 (S:=DI) ay (af ⟨mod2_x,apj⟩) (tys:=[.str]) (λf x=>vG true (sm kL) x.1) (λx=>by show _=Option.map kL _;simp only[vG,l6,ss])
def Md (m:Bool)(K:Str→Option C)(x:Int):Option C:=cl m tInt (mod2_ev x 26) λr1=>ck (!(26:Int)=0) (cl m tInt (mod2_ev (w64 (Int.tdiv x 26)) 25) (λf=>K (List.map (λn : Int=>UInt8.ofNat n.toNat) [IntKind.wrap .u8 (w64 ((97:Int)+r1)),IntKind.wrap .u8 (w64 ((98:Int)+f))])))
def sr (x:Int):Option Str:=Md false some x
def aby:Ent:=evE (.cons tInt .unit) kL (zero .str) λx=>sr x.1
def aib:ak prog 100 (aby):=evX func100 (S:=DI) ay (af ⟨mod2_x,apj⟩) (tys:=[.str]) (λf x=>Md true (sm kL) x.1) (λx=>by show _=Option.map kL _;simp only[Md,sr,ss])
abbrev eo (C:Type):=Int→ah.den→(List Int)→Int→Option C
abbrev Ir (C:Type):=Int→Int→ah.den→(List Int)→Option C
def fC (m:Bool)(K:(List Int)→Option C)(g:eo C):Ir C:=λf i s out=>fz m tInt (w64 (i+1)) λj=>g f s out j
def ah9 (g:ah.den)(f:Int):Bool:=(fZ g f).isSome
def aia (g:ah.den)(f:Int):Int:=(fZ g f).getD (zero tInt)
def dM (m:Bool)(K:(List Int)→Option C)(g:eo C):eo C:=λf s out i=>let b:=bd i s.1.length;let a:=ix ag s.1 i;cond (i<il s.1) (ck b (nq m [2,2] (a.2.1=1) (nq m [2] (a.2.1=1&&!f=0) (nm m 2 (a.2.1=1&&!f=0) b (nq m [2,2] (a.2.1=1&&!f=0) (nm m 2 (a.2.1=1&&!f=0) (ah9 s a.1) (nq m [3] (a.2.1=1&&!f=0) (nm m 0 (a.2.1=1) (ii (a.2.1=1&&!f=0)) (nq m [1] (a.2.1=1) (cond (cond (a.2.1=1) (cond (f=0) true (aia s a.1=f)) false) (ck b (ck (lm (List.length out+List.length ([a.1]:List Int))) (fz m (.slice tInt) (out++[a.1]) (λj=>fC m K g f i s j)))) (fC m K g f i s out))))))))))) (K out)
def kw (m:Bool)(K:(List Int)→Option C)(g:eo C)(s:ah.den)(f:Int):Option C:=g f s [] 0
def ep:Nat→eo (List Int):=lp (λ_ _ _ _=>none) λf=>dM false some f
def aB (s:ah.den)(f:Int):Option (List Int):=kw false some (ep FU) s f
def kx:Nw:=nwE tInt (.cons ah (.cons tInt .unit)) 3 λx=>aB x.1 x.2.1
def px:MS:=⟨1,[(0,[.dat (.slice ag)])],[(1,.dat tInt),(2,.keep),(5,.own tInt 3),(6,.dat tInt)]⟩
def Du:Par:=⟨bB.tab,az [(95,Ax)],λ_=>look [(4,px)],λ_=>look [(3,px)]⟩
def QF:KT:=aaB bB.tab [.tmp 4] tInt 3
def Dv:=h12 Du f59
def jB (f n:Nat):eo AV:=λg s out i=>aE 0 px (Dv f 0 [1,1,0,1,0,0]) (ai 0 (aQ 0 none (Dv f 0 [1,1,1]) QF)) n ⟨mkE 47 [(1,.val tInt g),(2,.box 0 0),(5,.own 1 0 tInt out),(6,.val tInt i)],mkH 2 [(0,.box [.val (.slice ag) s.1]),(1,.row tInt 3 0)]⟩
def It (f g:Nat):jB f (g+1)=dM true (sm ap) (jB f g):=Φ
def Iu:∀n,jB FU n=mp4 ap (ep n):=bM Φ λf _ h=>(It FU f).trans (by rw[h];funext _ _ _ _;simp only[dM,fC,ss])
def oV:Uy prog 59 (kx):=nwX func59 (S:=Du) ay (af ⟨Eb,apj⟩) (λf x=>kw true (sm ap) (jB f f) x.1 x.2.1) (λx=>by show _=Option.map ap _;rw[Iu FU];simp only[kw,aB,fC,ss])
def DW (m:Bool)(K:Int→Option C)(l:(List Int))(x:Int):Option C:=cond (il l=0) (K 0) (cl m tInt (mod2_ev x (il l)) (λr1=>ck (bd r1 l.length) (K (ix tInt l r1))))
def be (l:(List Int))(x:Int):Option Int:=DW false some l x
def z6:Ent:=evE (.cons (.slice tInt) (.cons tInt .unit)) av (zero tInt) λx=>be x.1 x.2.1
def DV:ak prog 60 (z6):=evX func60 (S:=DI) ay (af ⟨mod2_x,apj⟩) (tys:=[tInt]) (λf x=>DW true (sm av) x.1 x.2.1) (λx=>by show _=Option.map av _;simp only[DW,be,ss])
def DU (m:Bool)(K:aN.den→Option C)(s:ah.den)(id:Int)(field:Int):Option C:=ce m (.slice eL) (ca s id field) (iU s id field) λr1=>cond (il r1=0) (K (0,false,[],0,())) (ck (bd 0 r1.length) (K (ix eL r1 0).2.1))
def fW (s:ah.den)(id:Int)(field:Int):Option aN.den:=DU false some s id field
def U6:Ent:=evE (.cons ah (.cons tInt (.cons tInt .unit))) cN (zero aN) λx=>fW x.1 x.2.1 x.2.2.1
def aeu:ak prog 98 (U6):=evX func98 (S:=Vw) ay (af ⟨M4,apj⟩) (tys:=[aN]) (λf x=>DU true (sm cN) x.1 x.2.1 x.2.2.1) (λx=>by show _=Option.map cN _;simp only[DU,fW,ss])
def vQ (m:Bool)(K:aN.den→Option C)(v:aN.den)(s:ah.den)(x:Int):Option C:=let b:=w64 (Int.tdiv x 4);let a:=w64 (Int.tdiv x 6);nq m [2,2,1] (v.1≥5) (cond (cond (v.1≥5) (v.1≤9) false) (cl m tInt (mod2_ev x 4) (λr1=>cond (r1=0) (K (5,false,[],0,())) (cond (r1=1) (K (6,false,[],0,())) (cond (r1=2) (ck (!(4:Int)=0) (cl m .str (jF 3 b) (λJ=>K (9,false,J,0,())))) (cl m (.slice tInt) (aB s 3) (λr=>ck (!(4:Int)=0) (cl m tInt (be r b) (λj=>cond (!j=0) (K (9,false,[],j,())) (K (7,false,[],0,())))))))))) (cond (v.1=21) (cl m tInt (mod2_ev x 2) (λp=>cond (p=0) (K (21,false,[42],0,())) (K (21,false,[60],0,())))) (cond (v.1=20) (cl m .str (jF 2 x) (λl=>K (20,false,l,0,()))) (cl m tInt (mod2_ev x 6) (λf=>cond (f=0) (K (10,false,[51],0,())) (cond (f=1) (K (11,false,[34,115,34],0,())) (cond (f=2) (cl m (.slice tInt) (aB s 4) (λr8=>ck (!(6:Int)=0) (cl m tInt (be r8 a) (λr9=>cond (!r9=0) (K (12,false,[],r9,())) (K (12,false,[122],0,())))))) (cond (f=3) (cl m (.slice tInt) (aB s 2) (λr10=>ck (!(6:Int)=0) (cl m tInt (be r10 a) (λr11=>cond (!r11=0) (ck (!(6:Int)=0) (cl m tInt (mod2_ev a 3) (λg=>K (16,decide (g=0),[],r11,())))) (K (16,false,[77,46,102],0,())))))) (cond (f=4) (K (10,false,[49,50],0,())) (K (13,false,[],0,())))))))))))
def eP (v:aN.den)(s:ah.den)(x:Int):Option aN.den:=vQ false some v s x
def I7:Ent:=evE (.cons aN (.cons ah (.cons tInt .unit))) cN (zero aN) λx=>eP x.1 x.2.1 x.2.2.1
def Xo:Par:=⟨bB.tab,E8 [(18,yu),(96,KX),(60,z6)] [] [] [] [(59,kx)],λ_=>look [],λ_=>look []⟩
def Xn:ak prog 97 (I7):=evX func97 (S:=Xo) ay (vN ⟨mod2_x,UE,DV,apj⟩ trivial trivial trivial ⟨oV,apj⟩) (tys:=[aN]) (λf x=>vQ true (sm cN) x.1 x.2.1 x.2.2.1) (λx=>by show _=Option.map cN _;simp only[vQ,eP,ss])
abbrev cr (C:Type):=Υ→Nat→Int→Υ→Option C
abbrev jI (C:Type):=Υ→Int→Nat→Int→Υ→Option C
abbrev K7 (C:Type):=Υ→Int→Int→Nat→Int→Υ→Option C
abbrev Oc (C:Type):=Υ→Int→Nat→Υ→Option C
def mf (m:Bool)(K:bv→Option C)(g:jI C):cr C:=λl f i out=>cond (i<il l) (fz m tInt (ni f) (λj=>g l i f j out)) (K ((List.take f out).drop 0))
def mg (m:Bool)(K:bv→Option C)(g:cr C):Oc C:=λl i f out=>fz m tInt (w64 (i+1)) λj=>g l f j out
def eO (m:Bool)(K:bv→Option C)(p:cr C):K7 C:=λl i g f j out=>let a:=List.take (0+f) out;ck (0≤j&&j≤ni f) (ck (lm (List.length ([]:List aa.den)+List.length (a.drop (0+Int.toNat j)))) (ck (0≤g&&g≤ni f) (ck (bd i l.length) (ck (lm (0+Int.toNat g+List.length ([ix aa l i]:List aa.den))) (ck (lm (0+Int.toNat g+List.length ([ix aa l i]:List aa.den)+List.length (([]:List aa.den)++a.drop (0+Int.toNat j)))) (fm m (0+Int.toNat g+List.length ([ix aa l i]:List aa.den)+List.length (([]:List aa.den)++a.drop (0+Int.toNat j))) (λJ=>fz m (.slice aa) (List.take (0+Int.toNat g+List.length ([ix aa l i]:List aa.den)) (List.take (0+Int.toNat g) out++[ix aa l i])++(([]:List aa.den)++a.drop (0+Int.toNat j))) λr=>mg m K p l i J r)))))))
def mc (m:Bool)(K:bv→Option C)(J:jI C)(r:cr C):jI C:=λl i j p out=>let g:=w64 (p-1);let f:=ix aa l i;let e:=List.getD out (0+Int.toNat p) (zero aa);let d:=decide (p>0);let c:=bd i l.length;let b:=List.getD out (0+Int.toNat g) (zero aa);let a:Bool:=cond (p<ni j) (e.1=f.1) false;nq m [2] (p>0) (nm m 2 (p>0) (0≤w64 (p-1)&&w64 (p-1)<ni j) (nq m [2,2,2] (p>0) (nm m 2 (p>0) (0≤w64 (p-1)&&w64 (p-1)<ni j) (nq m [2,2] (p>0) (nm m 2 (p>0) c (nq m [2,2] (p>0) (nm m 2 (p>0) c (nq m [2,2] (p>0) (ck (ii d&&(ii d&&(ii d&&(ii d&&true)))&&true) (nq m [2,1] (p>0) (cond (cond (p>0) (!vf b.1 b.2.1 f.1 f.2.1) false) (fz m tInt g (λR=>J l i j R out)) (nm m 2 (p<ni j) (0≤p&&p<ni j) (nq m [2,2] (p<ni j) (nm m 2 (p<ni j) c (nq m [2,2,3,1] (p<ni j) (nm m 2 a (0≤p&&p<ni j) (nq m [2,2] a (nm m 2 a c (nq m [2,2,3,1] a (cond (cond a (e.2.1=f.2.1) false) (fz m tInt (w64 (p+1)) (λP=>eO m K r l i p j P out)) (eO m K r l i p j p out)))))))))))))))))))))
def vO (m:Bool)(K:bv→Option C)(f:cr C)(l:Υ):Option C:=f l 0 0 []
def jK (g:cr bv):Nat→jI bv:=lp (λ_ _ _ _ _=>none) λf=>mc false some f g
def oo:Nat→cr bv:=lp (λ_ _ _ _=>none) λf=>mf false some (jK f FU)
def mh (l:Υ):Option bv:=vO false some (oo FU) l
def I4:Ent:=evE (.cons (.slice aa) .unit) bE (zero (.slice aa)) λx=>mh x.1
def jJ:MS:=⟨0,[],[(0,.dat (.slice aa)),(3,.mut aa 44),(4,.dat tInt)]⟩
def CW:MS:=⟨0,[],[(0,.dat (.slice aa)),(3,.mut aa 44),(4,.dat tInt),(5,.dat tInt)]⟩
def K8:MS:=⟨0,[],[(0,.dat (.slice aa)),(3,.mut aa 44),(4,.dat tInt),(5,.dat tInt),(6,.dat tInt)]⟩
def I5:Par:=⟨bB.tab,az [(145,xa)],λ_=>look [(11,K8),(4,jJ)],λ_=>look [(3,jJ),(6,CW)]⟩
def I6:KT:=bq bB.tab [.tmp 2] [(.slice aa)]
def ja:=h12 I5 f103
def jL (g n:Nat):cr AV:=λl f i out=>aE 0 jJ (ja g 0 [1,1,0,1,0,0]) (ai 0 (aQ 0 none (ja g 0 [1,1,1]) I6)) n ⟨mkE 96 [(0,.val (.slice aa) l),(3,.msl 0 0 0 f),(4,.val tInt i)],mkH 1 [(0,.mrow aa 44 0 out)]⟩
def ol (f p n:Nat):jI AV:=λl i g j out=>aE 0 CW (ja f 0 [1,1,0,1,0,0,1,0,0,1,0,0,0]) (ai 2 (aQ 0 none (ja f 0 [1,1,0,1,0,0,1,0,0,1,1]) (ai 1 (aQ 0 (some jJ) (ja f 0 [1,1,0,1,0,0,1,1]) (kLp 0 jJ (ja f 0 [1,1,0,1,0,0]) (ai 0 (aQ 0 none (ja f 0 [1,1,1]) I6)) p))))) n ⟨mkE 96 [(0,.val (.slice aa) l),(3,.msl 0 0 0 g),(4,.val tInt i),(5,.val tInt j)],mkH 1 [(0,.mrow aa 44 0 out)]⟩
def Of (f g:Nat):jL f (g+1)=mf true (sm bE) (ol f g f):=Φ
def Od (f g j:Nat):ol f g (j+1)=mc true (sm bE) (ol f g j) (jL f g):=Φ
def Oe (j:Nat){f:cr bv}(g:jL FU j=mp4 bE f):∀n,ol FU j n=mp5 bE (jK f n):=bM Φ λl _ h=>(Od FU j l).trans (by rw[h,g];funext _ _ _ _ _;simp only[mc,eO,mg,ss])
def Oh:∀n,jL FU n=mp4 bE (oo n):=bM Φ λf _ h=>(Of FU f).trans (by rw[Oe f h FU];funext _ _ _ _;simp only[mf,eO,mg,ss])
def Xk:ak prog 103 (I4):=evX func103 (S:=I5) ay (af ⟨M8,apj⟩) (tys:=[(.slice aa)]) (λf x=>vO true (sm bE) (jL f f) x.1) (λx=>by show _=Option.map bE _;rw[Oh FU];simp only[vO,mh,eO,mg,ss])
abbrev kB (C:Type):=Int→(List Int)→aO.den→Υ→Int→Option C
abbrev q9 (C:Type):=Int→(List Int)→Int→Υ→aO.den→Υ→Int→Option C
abbrev adL (C:Type):=Int→(List Int)→Int→Υ→Int→aO.den→Υ→Option C
def BB (m:Bool)(K:bv→Option C)(f:q9 C):kB C:=λid r1 g out i=>nq m [2,1] (i<il ([id]++r1)) (cond (cond (i<il ([id]++r1)) (i<12) false) (ck (bd i ([id]++r1).length) (cl m (.slice aa) (Gi g.1 (ix tInt ([id]++r1) i)) (λj=>f id r1 i j g out 0))) (K out))
def w9 (m:Bool)(K:bv→Option C)(f:q9 C):adL C:=λid r1 i p j l out=>fz m tInt (w64 (j+1)) λg=>f id r1 i p l out g
def Bz (m:Bool)(K:bv→Option C)(f:q9 C)(l:kB C):q9 C:=λid r1 i j J out g=>let a:=bd g j.length;cond (g<il j) (ck a (cond (!(ix aa j g).2.1=1) (ck a (ck (lm (List.length out+List.length ([ix aa j g]:List aa.den))) (fz m (.slice aa) (out++[ix aa j g]) (λp=>w9 m K f id r1 i j g J p)))) (w9 m K f id r1 i j g J out))) (fz m tInt (w64 (i+1)) (λr=>l id r1 J out r))
def M6 (m:Bool)(K:bv→Option C)(f:kB C)(g:aO.den)(id:Int):Option C:=cl m (.slice tInt) (nB g id) λr1=>ck (lm (List.length ([id]:List Int)+List.length r1)) (f id r1 g [] 0)
def vd (g:kB bv):Nat→q9 bv:=lp (λ_ _ _ _ _ _ _=>none) λf=>Bz false some f g
def BA:Nat→kB bv:=lp (λ_ _ _ _ _=>none) λf=>BB false some (vd f FU)
def pd (f:aO.den)(id:Int):Option bv:=M6 false some (BA FU) f id
def adQ:Ent:=evE (.cons aO (.cons tInt .unit)) bE (zero (.slice aa)) λx=>pd x.1 x.2.1
def HZ:MS:=⟨1,[(0,[.dat (.slice aa)])],[(2,.keep),(5,.dat (.slice tInt)),(6,.own aa 44),(7,.dat tInt)]⟩
def HY:MS:=⟨1,[(0,[.dat (.slice aa)])],[(2,.keep),(5,.dat (.slice tInt)),(6,.own aa 44),(7,.dat tInt),(8,.dat (.slice aa)),(9,.dat tInt)]⟩
def adR:Par:=⟨bB.tab,az [(143,Kz),(144,agU)],λ_=>look [(9,HY)],λ_=>look [(4,HZ),(8,HY)]⟩
def CD:=h12 adR f102
def ve (f n:Nat):kB AV:=λid r1 g out i=>aE 0 HZ (CD f 0 [1,1,1,0,1,0,0]) (ai 0 (aQ 0 none (CD f 0 [1,1,1,1]) aa3)) n ⟨mkE 53 [(2,.box 0 0),(5,.val (.slice tInt) ([id]++r1)),(6,.own 1 0 aa out),(7,.val tInt i)],mkH 2 [(0,.box [.val (.slice aa) g.1]),(1,.row aa 44 0)]⟩
def By (f p n:Nat):q9 AV:=λid r1 i l j out g=>aE 0 HY (CD f 0 [1,1,1,0,1,0,0,1,0,0,1,1,0,0]) (ai 2 (ai 1 (aQ 0 none (CD f 0 [1,1,1,0,1,0,0,1,1]) (kLp 0 HZ (CD f 0 [1,1,1,0,1,0,0]) (ai 0 (aQ 0 none (CD f 0 [1,1,1,1]) aa3)) p)))) n ⟨mkE 53 [(2,.box 0 0),(5,.val (.slice tInt) ([id]++r1)),(6,.own 1 0 aa out),(7,.val tInt i),(8,.val (.slice aa) l),(9,.val tInt g)],mkH 2 [(0,.box [.val (.slice aa) j.1]),(1,.row aa 44 0)]⟩
def adO (f g:Nat):ve f (g+1)=BB true (sm bE) (By f g f):=Φ
def adM (f g j:Nat):By f g (j+1)=Bz true (sm bE) (By f g j) (ve f g):=Φ
def adN (j:Nat){f:kB bv}(g:ve FU j=mp5 bE f):∀n,By FU j n=mp7 bE (vd f n):=bM Φ λl _ h=>(adM FU j l).trans (by rw[h,g];funext _ _ _ _ _ _ _;simp only[Bz,w9,ss])
def adP:∀n,ve FU n=mp5 bE (BA n):=bM Φ λf _ h=>(adO FU f).trans (by rw[adN f h FU];funext _ _ _ _ _;simp only[BB,w9,ss])
def ai0:ak prog 102 (adQ):=evX func102 (S:=adR) ay (af ⟨Zd,ajm,apj⟩) (tys:=[(.slice aa)]) (λf x=>M6 true (sm bE) (ve f f) x.1 x.2.1) (λx=>by show _=Option.map bE _;rw[adP FU];simp only[M6,pd,w9,ss])
abbrev ft (C:Type):=Nat→Int→Υ→Option C
abbrev Lp (C:Type):=Int→Nat→Υ→Option C
def jP (m:Bool)(K:bv→Option C)(g:ft C):Lp C:=λi f out=>fz m tInt (w64 (i+1)) λj=>g f j out
def jO (m:Bool)(K:bv→Option C)(g:ft C):ft C:=λf i out=>let a:=List.getD out (0+Int.toNat i) (zero aa);cond (i<ni f) (ck (0≤i&&i<ni f) (cond (a.2.1=2) (ck (0≤i&&i<ni f) (fz m (.slice aa) (List.set out (0+Int.toNat i) (a.1,a.2.1,(0,false,[],0,()),())) (λj=>jP m K g i f j))) (jP m K g i f out))) (K ((List.take f out).drop 0))
def rO (m:Bool)(K:bv→Option C)(f:ft C)(l:Υ):Option C:=ck (lm (0+List.length l)) (fm m (0+List.length l) (λj=>fz m (.slice aa) (List.take 0 []++l) λg=>f j 0 g))
def kR:Nat→ft bv:=lp (λ_ _ _=>none) λf=>jO false some f
def eT (l:Υ):Option bv:=rO false some (kR FU) l
def Fq:Ent:=evE (.cons (.slice aa) .unit) bE (zero (.slice aa)) λx=>eT x.1
def rP:MS:=⟨0,[],[(3,.mut aa 44),(4,.dat tInt)]⟩
def Fr:Par:=⟨NW.tab,az [],λ_=>look [(4,rP)],λ_=>look [(3,rP)]⟩
def So:KT:=bq NW.tab [.tmp 2] [(.slice aa)]
def Fs:=h12 Fr f101
def kQ (g n:Nat):ft AV:=λf i out=>aE 0 rP (Fs g 0 [1,1,0,1,0,0]) (ai 0 (aQ 0 none (Fs g 0 [1,1,1]) So)) n ⟨mkE 26 [(3,.msl 0 0 0 f),(4,.val tInt i)],mkH 1 [(0,.mrow aa 44 0 out)]⟩
def Lr (f g:Nat):kQ f (g+1)=jO true (sm bE) (kQ f g):=Φ
def Ls:∀n,kQ FU n=mp3 bE (kR n):=bM Φ λf _ h=>(Lr FU f).trans (by rw[h];funext _ _ _;simp only[jO,jP,ss])
def Sn:ak prog 101 (Fq):=evX func101 (S:=Fr) NV (af trivial) (tys:=[(.slice aa)]) (λf x=>rO true (sm bE) (kQ f f) x.1) (λx=>by show _=Option.map bE _;rw[Ls FU];simp only[rO,eT,jP,ss])
abbrev dv (C:Type):=Int→(List Int)→(List Int)→(List Int)→Int→Bool→(List ag.den)→Int→Int→Int→Int→Υ→Option C
abbrev kK (C:Type):=Int→Int→Int→Int→Int→Int→Option C
abbrev fp (C:Type):=Υ→Option C
abbrev kJ (C:Type):=Int→Int→Bool→Str→Int→Option C
def rb (m:Bool)(K:bv→Option C)(r:kK C)(p:dv C):dv C:=λP r2 r3 r4 U t33 J l j f g R=>cond t33 (cl m tInt (be r2 f) (λr6=>cl m tInt (fZ (J,()) r6) λr7=>nq m [2,0] (!r7=5) (cond (cond (r7=5) true (r7=0)) (cl m tInt (be r4 f) (λr8=>r r8 2 l j f g)) (r r6 r7 l j f g)))) (cond (U=2) (fz m .bool (decide (U=2)) (λT=>p P r2 r3 r4 U T J l j f g R)) (fz m .bool (decide (U=3)) (λT=>p P r2 r3 r4 U T J l j f g R)))
def nU (m:Bool)(K:bv→Option C)(f:fp C):kK C:=λid l J r p g=>cl m .str (jF l g) λr9=>ck (lm (List.length ([]:List aa.den)+List.length ([(id,3,(0,false,r9,0,()),())]:List aa.den))) (fz m (.slice aa) ([]++[(id,3,(0,false,r9,0,()),())]) (λj=>f j))
def nT (m:Bool)(K:bv→Option C)(g:fp C)(P:kJ C):dv C:=λf r2 r3 r4 T t63 l b1_0 b1_1 r j R=>let e:=be r2 r;let d:=aB (l,()) 4;let c:=aB (l,()) 1;let b:=w64 (Int.tdiv j 2);let a:=be r3 r;cond t63 (cl m tInt a (λr10=>cl m aN (fW (l,()) r10 4) λr11=>cl m aN (eP r11 (l,()) j) λr12=>ck (lm (List.length ([]:List aa.den)+List.length ([(r10,4,r12,())]:List aa.den))) (fz m (.slice aa) ([]++[(r10,4,r12,())]) (λp=>g p)))) (cond (T=4) (cl m tInt e (λr13=>cl m tInt (mod2_ev j 3) λr14=>ck (!(3:Int)=0) (cl m .str (l6 (w64 (Int.tdiv j 3))) (λr15=>ck (lm (List.length ([]:List aa.den)+List.length ([(r13,w64 ((8:Int)+r14),(0,false,r15,0,()),())]:List aa.den))) (fz m (.slice aa) ([]++[(r13,w64 ((8:Int)+r14),(0,false,r15,0,()),())]) (λp=>g p)))))) (cond (T=5) (cl m tInt (be r4 r) (λr16=>cl m (.slice tInt) c λr17=>cl m tInt (be r17 j) λr18=>ck (!(2:Int)=0) (cl m .str (sr b) (λr19=>ck (lm (List.length ([]:List aa.den)+List.length ([(r16,2,(0,false,r19,r18,()),())]:List aa.den))) (fz m (.slice aa) ([]++[(r16,2,(0,false,r19,r18,()),())]) (λp=>g p)))))) (cond (T=6) (cl m tInt a (λr20=>cl m tInt (be r3 j) λr21=>cl m aN (fW (l,()) r21 2) λr22=>ck (lm (List.length ([]:List aa.den)+List.length ([(r20,2,r22,())]:List aa.den))) (fz m (.slice aa) ([]++[(r20,2,r22,())]) (λp=>g p)))) (cond (T=7) (cl m tInt a (λr23=>cl m aN (fW (l,()) r23 2) λr24=>cl m (.slice aa) (pd (R,()) r23) λr25=>cl m (.slice aa) (eT r25) λr26=>ck (lm (List.length ([]:List aa.den)+List.length r26)) (cl m aN (fW (l,()) r23 4) (λr27=>cl m aN (eP r27 (l,()) j) λr28=>ck (lm (List.length ([]++r26)+List.length ([(w64 (f+1),1,(5,false,[],0,()),()),(w64 (f+1),2,r24,()),(w64 (f+1),4,r28,())]:List aa.den))) (fz m (.slice aa) ([]++r26++[(w64 (f+1),1,(5,false,[],0,()),()),(w64 (f+1),2,r24,()),(w64 (f+1),4,r28,())]) (λp=>g p)))))) (cond (T=8) (cl m (.slice tInt) c (λr29=>cl m tInt (be r29 r) λr30=>cl m .str (sr j) λr31=>cl m .str (jF 2 j) λr32=>ck (!(2:Int)=0) (cl m aN (eP (0,false,[],0,()) (l,()) b) (λr33=>ck (lm (List.length ([]:List aa.den)+List.length ([(w64 (f+1),1,(2,false,[],0,()),()),(w64 (f+1),2,(0,false,r31,r30,()),()),(w64 (f+1),3,(0,false,r32,0,()),()),(w64 (f+1),8,(0,false,[10],0,()),()),(w64 (f+1),9,(0,false,[32],0,()),()),(w64 (f+2),1,(5,false,[],0,()),()),(w64 (f+2),2,(1,false,[],w64 (f+1),()),()),(w64 (f+2),4,(5,false,[],0,()),()),(w64 (f+3),1,(5,false,[],0,()),()),(w64 (f+3),2,(2,false,[],w64 (f+1),()),()),(w64 (f+3),4,r33,())]:List aa.den))) (fz m (.slice aa) ([]++[(w64 (f+1),1,(2,false,[],0,()),()),(w64 (f+1),2,(0,false,r31,r30,()),()),(w64 (f+1),3,(0,false,r32,0,()),()),(w64 (f+1),8,(0,false,[10],0,()),()),(w64 (f+1),9,(0,false,[32],0,()),()),(w64 (f+2),1,(5,false,[],0,()),()),(w64 (f+2),2,(1,false,[],w64 (f+1),()),()),(w64 (f+2),4,(5,false,[],0,()),()),(w64 (f+3),1,(5,false,[],0,()),()),(w64 (f+3),2,(2,false,[],w64 (f+1),()),()),(w64 (f+3),4,r33,())]) (λp=>g p)))))) (cond (T=9) (cl m (.slice tInt) d (λr34=>ck (lm (r4.length+r34.length)) (cl m tInt (be (r4++r34) r) (λr35=>cl m (.slice aa) (pd (R,()) r35) λr36=>cl m (.slice aa) (eT r36) λr37=>g r37)))) (cond (T=10) (cl m (.slice tInt) d (λr38=>cl m tInt (be r38 r) λU=>cl m aN (fW (l,()) U 2) λJ=>cond (!J.2.2.2.1=0) (cl m .str (sr j) (λr41=>P U J.1 J.2.1 r41 J.2.2.2.1)) (P U J.1 J.2.1 J.2.2.1 J.2.2.2.1))) (cond (T=11) (cl m tInt e (λr42=>cl m (.slice aa) (pd (R,()) r42) λr43=>g r43)) (g [])))))))))
def nR (m:Bool)(K:bv→Option C):fp C:=λw=>cl m (.slice aa) (mh w) λf=>K f
def nS (m:Bool)(K:bv→Option C)(p:fp C):kJ C:=λr l j g f=>ck (lm (List.length ([]:List aa.den)+List.length ([(r,2,(l,j,g,f,()),())]:List aa.den))) (fz m (.slice aa) ([]++[(r,2,(l,j,g,f,()),())]) (λJ=>p J))
def vq (m:Bool)(K:bv→Option C)(j:dv C)(s:ah.den)(d:bg.den)(g:Int):Option C:=ce m aO (stG s) (eX s) λr1=>cl m (.slice tInt) (aB s 0) λr2=>cl m (.slice tInt) (aB s 5) λU=>cl m (.slice tInt) (aB s 2) λT=>cl m tInt (mod2_ev d.1 13) λR=>cond (R=0) (fz m .bool (decide (R=0)) (λP=>fz m (.slice ag) s.1 λJ=>fz m tInt d.1 λr=>fz m tInt d.2.1 λp=>fz m tInt d.2.2.1 λl=>fz m tInt d.2.2.2.1 λf=>j g r2 U T R P J r p l f r1.1)) (fz m .bool (decide (R=1)) (λP=>fz m (.slice ag) s.1 λJ=>fz m tInt d.1 λr=>fz m tInt d.2.1 λp=>fz m tInt d.2.2.1 λl=>fz m tInt d.2.2.2.1 λf=>j g r2 U T R P J r p l f r1.1))
def dD:fp bv:=nR false some
def dE:kK bv:=nU false some dD
def ip:kJ bv:=nS false some dD
def iq:dv bv:=nT false some dD ip
def nQ:dv bv:=rb false some dE iq
def lS (s:ah.den)(d:bg.den)(f:Int):Option bv:=vq false some nQ s d f
def IJ:Ent:=evE (.cons ah (.cons bg (.cons tInt .unit))) bE (zero (.slice aa)) λx=>lS x.1 x.2.1 x.2.2.1
def Nk:MS:=⟨6,[(0,[.dat (.slice ag)]),(1,[.dat tInt,.dat tInt,.dat tInt,.dat tInt]),(5,[.dat (.slice aa)])],[(2,.dat tInt),(3,.keep),(4,.keep),(7,.keep),(8,.dat (.slice tInt)),(9,.dat (.slice tInt)),(10,.own tInt 3),(11,.own aa 44),(32,.dat tInt),(33,.dat .bool)]⟩
def KM:MS:=⟨2,[(0,[.drop]),(1,[.dat tInt,.dat tInt,.dat tInt,.dat tInt])],[(4,.keep),(11,.own aa 44),(12,.dat tInt),(13,.dat tInt)]⟩
def KL:MS:=⟨6,[(0,[.dat (.slice ag)]),(1,[.dat tInt,.dat tInt,.dat tInt,.dat tInt]),(5,[.dat (.slice aa)])],[(2,.dat tInt),(3,.keep),(4,.keep),(7,.keep),(8,.dat (.slice tInt)),(9,.dat (.slice tInt)),(10,.own tInt 3),(11,.own aa 44),(32,.dat tInt),(63,.dat .bool)]⟩
def ig:MS:=⟨0,[],[(11,.dat (.slice aa))]⟩
def KK:MS:=⟨32,[(0,[.drop]),(1,[.drop,.drop,.drop,.drop]),(5,[.drop]),(31,[.dat tInt,.dat .bool,.dat .str,.dat tInt])],[(11,.own aa 44),(20,.dat tInt),(21,.keep)]⟩
def IK:Par:=⟨bB.tab,E8 [(94,Gw),(18,yu),(60,z6),(95,Ax),(96,KX),(98,U6),(97,I7),(99,IY),(100,aby),(102,adQ),(101,Fq),(103,I4)] [] [] [] [(59,kx)],λ_=>look [(9,Nk),(14,KM),(17,KL),(45,ig),(42,KK)],λ_=>look []⟩
def pF:KT:=bq bB.tab [.tmp 6] [(.slice aa)]
def fq:=h12 IK f55
def tB (f:Nat):dv AV:=λg r2 U T R P J C r p l j=>fq f 0 [1,1,1,1,1,1,0,1,0,1] ⟨mkE 290 [(2,.val tInt g),(3,.box 0 0),(4,.box 1 0),(7,.box 5 0),(8,.val (.slice tInt) r2),(9,.val (.slice tInt) U),(10,.own 6 0 tInt T),(11,.own 7 0 aa []),(32,.val tInt R),(33,.val .bool P)],mkH 8 [(0,.box [.val (.slice ag) J]),(1,.box [.val tInt C,.val tInt r,.val tInt p,.val tInt l]),(5,.box [.val (.slice aa) j]),(6,.row tInt 3 0),(7,.row aa 44 0)]⟩ (ai 0 (aQ 0 (some ig) (fq f 0 [1,1,1,1,1,1,1]) pF))
def rh (f:Nat):kK AV:=λid r p l j g=>fq f 0 [1,1,1,1,1,1,0,1,0,1,0,1,1,1] ⟨mkE 290 [(4,.box 1 0),(11,.own 2 0 aa []),(12,.val tInt id),(13,.val tInt r)],mkH 3 [(0,.box [.unk]),(1,.box [.val tInt p,.val tInt l,.val tInt j,.val tInt g]),(2,.row aa 44 0)]⟩ (ai 0 (aQ 0 (some ig) (fq f 0 [1,1,1,1,1,1,1]) pF))
def rg (f:Nat):dv AV:=λg r2 U T R P J C r p l j=>fq f 0 [1,1,1,1,1,1,0,1,0,1,1,1] ⟨mkE 290 [(2,.val tInt g),(3,.box 0 0),(4,.box 1 0),(7,.box 5 0),(8,.val (.slice tInt) r2),(9,.val (.slice tInt) U),(10,.own 6 0 tInt T),(11,.own 7 0 aa []),(32,.val tInt R),(63,.val .bool P)],mkH 8 [(0,.box [.val (.slice ag) J]),(1,.box [.val tInt C,.val tInt r,.val tInt p,.val tInt l]),(5,.box [.val (.slice aa) j]),(6,.row tInt 3 0),(7,.row aa 44 0)]⟩ (ai 0 (aQ 0 (some ig) (fq f 0 [1,1,1,1,1,1,1]) pF))
def io (f:Nat):fp AV:=λw=>fq f 0 [1,1,1,1,1,1,1] ⟨mkE 290 [(11,.val (.slice aa) w)],mkH 0 []⟩ pF
def re (f:Nat):kJ AV:=λr p l j g=>fq f 0 [1,1,1,1,1,1,0,1,0,1,1,1,1,1,1,1,1,1,1,1,1,1,1,1,1,1,0,1,1,1] ⟨mkE 290 [(11,.own 32 0 aa []),(20,.val tInt r),(21,.box 31 0)],mkH 33 [(0,.box [.unk]),(1,.box [.unk,.unk,.unk,.unk]),(5,.box [.unk]),(6,.row tInt 3 0),(7,.row aa 44 1),(23,.row tInt 3 1),(31,.box [.val tInt p,.val .bool l,.val .str j,.val tInt g]),(32,.row aa 44 0)]⟩ (ai 0 (aQ 0 (some ig) (fq f 0 [1,1,1,1,1,1,1]) pF))
def Nl (f:Nat):tB f=rb true (sm bE) (rh f) (rg f):=Φ
def KS (f:Nat):rh f=nU true (sm bE) (io f):=Φ
def KQ (f:Nat):rg f=nT true (sm bE) (io f) (re f):=Φ
def KN (f:Nat):io f=nR true (sm bE):=Φ
def KO (f:Nat):re f=nS true (sm bE) (io f):=Φ
def rc:io FU=mp1 bE (dD):=(KN FU).trans (by funext _;simp only[nR,dD,ss])
def KU:rh FU=mp6 bE (dE):=(KS FU).trans (by rw[rc];funext _ _ _ _ _ _;simp only[nU,dE,ss])
def KP:re FU=mp5 bE (ip):=(KO FU).trans (by rw[rc];funext _ _ _ _ _;simp only[nS,ip,ss])
def KR:rg FU=ah3 bE (iq):=(KQ FU).trans (by rw[rc,KP];funext _ _ _ _ _ _ _ _ _ _ _ _;simp only[nT,iq,ss])
def Nm:tB FU=ah3 bE (nQ):=(Nl FU).trans (by rw[KU,KR];funext _ _ _ _ _ _ _ _ _ _ _ _;simp only[rb,nQ,ss])
def WC:ak prog 55 (IJ):=evX func55 (S:=IK) ay (vN ⟨abg,mod2_x,DV,Eb,UE,aeu,Xn,WS,aib,ai0,Sn,Xk,apj⟩ trivial trivial trivial ⟨oV,apj⟩) (tys:=[(.slice aa)]) (λf x=>vq true (sm bE) (tB f) x.1 x.2.1 x.2.2.1) (λx=>by show _=Option.map bE _;rw[Nm];simp only[vq,lS,ss])
abbrev dh (C:Type):=Λ→Int→Int→Int→Option C
abbrev gR (C:Type):=Λ→Int→Int→Int→Int→Option C
def qq (m:Bool)(K:Int→Option C)(g:gR C):dh C:=λl f i x=>g l f i x 0
def um (m:Bool)(K:Int→Option C)(g:gR C):dh C:=λl f x i=>let b:=bd i l.length;let a:=ix tCommit l i;cond (i<il l) (ck b (ck (0≤(20:Int)) (cond (Xq .i64 a.1 20=f) (ck b (fz m tInt (ut x a.1) (λj=>qq m K g l f i j))) (qq m K g l f i x)))) (K x)
def qp (m:Bool)(K:Int→Option C)(g:gR C):gR C:=λl f i p x=>fz m tInt (w64 (p+1)) λj=>g l f i x j
def uo (m:Bool)(K:Int→Option C)(g:dh C):dh C:=λl f i x=>fz m tInt (w64 (i+1)) λj=>g l f x j
def ul (m:Bool)(K:Int→Option C)(g:gR C)(p:dh C):gR C:=λl f i x j=>let b:=bd i l.length;let a:=ix tCommit l i;let d:=ix aa a.2.2.2.2.1 j;let c:=bd j a.2.2.2.2.1.length;ck b (cond (j<il a.2.2.2.2.1) (ck b (ck c (ck (0≤(20:Int)) (cond (Xq .i64 d.1 20=f) (ck b (ck c (fz m tInt (ut x d.1) (λr=>qp m K g l f i j r)))) (qp m K g l f i j x))))) (uo m K p l f i x))
def D6 (m:Bool)(K:Int→Option C)(g:dh C)(l:Λ)(f:Int):Option C:=ck (0≤(20:Int)) (fz m tInt (aao .i64 f 20) (λj=>g l f j 0))
def lz (g:dh Int):Nat→gR Int:=lp (λ_ _ _ _ _=>none) λf=>ul false some f g
def qm:Nat→dh Int:=lp (λ_ _ _ _=>none) λf=>um false some (lz f FU)
def qt (l:Λ)(f:Int):Option Int:=D6 false some (qm FU) l f
def Vn:Ent:=evE (.cons (.slice tCommit) (.cons tInt .unit)) av (zero tInt) λx=>qt x.1 x.2.1
def ly:MS:=⟨0,[],[(0,.dat (.slice tCommit)),(1,.dat tInt),(5,.dat tInt),(6,.dat tInt)]⟩
def B8:MS:=⟨0,[],[(0,.dat (.slice tCommit)),(1,.dat tInt),(5,.dat tInt),(6,.dat tInt),(7,.dat tInt)]⟩
def Vo:Par:=⟨bB.tab,az [],λ_=>look [(7,ly),(9,B8),(4,ly)],λ_=>look [(3,ly),(8,B8)]⟩
def wu:=h12 Vo f54
def ql (f n:Nat):dh AV:=λl g x i=>aE 0 ly (wu f 0 [1,1,0,1,0,0]) (ai 0 (aQ 0 none (wu f 0 [1,1,1]) Cn)) n ⟨mkE 65 [(0,.val (.slice tCommit) l),(1,.val tInt g),(5,.val tInt x),(6,.val tInt i)],mkH 0 []⟩
def wq (f p n:Nat):gR AV:=λl g i x j=>aE 0 B8 (wu f 0 [1,1,0,1,0,0,1,0,0,1,1,0,0]) (ai 2 (ai 1 (aQ 0 (some ly) (wu f 0 [1,1,0,1,0,0,1,1]) (kLp 0 ly (wu f 0 [1,1,0,1,0,0]) (ai 0 (aQ 0 none (wu f 0 [1,1,1]) Cn)) p)))) n ⟨mkE 65 [(0,.val (.slice tCommit) l),(1,.val tInt g),(5,.val tInt x),(6,.val tInt i),(7,.val tInt j)],mkH 0 []⟩
def X5 (f g:Nat):ql f (g+1)=um true (sm av) (wq f g f):=Φ
def X3 (f g j:Nat):wq f g (j+1)=ul true (sm av) (wq f g j) (ql f g):=Φ
def X4 (j:Nat){f:dh Int}(g:ql FU j=mp4 av f):∀n,wq FU j n=mp5 av (lz f n):=bM Φ λl _ h=>(X3 FU j l).trans (by rw[h,g];funext _ _ _ _ _;simp only[ul,uo,qq,qp,ss])
def X6:∀n,ql FU n=mp4 av (qm n):=bM Φ λf _ h=>(X5 FU f).trans (by rw[X4 f h FU];funext _ _ _ _;simp only[um,uo,qq,qp,ss])
def ae9:ak prog 54 (Vn):=evX func54 (S:=Vo) ay (af trivial) (tys:=[tInt]) (λf x=>D6 true (sm av) (ql f f) x.1 x.2.1) (λx=>by show _=Option.map av _;rw[X6 FU];simp only[D6,qt,uo,qq,qp,ss])
abbrev eh:=Λ
abbrev j8 (C:Type):=Λ→tCommit.den→Int→Option C
def mR (m:Bool)(K:eh→Option C)(g:j8 C):j8 C:=λl c f=>let d:=Int.toNat f;let b:=List.take (List.length l) l;let a:=List.take d l;nm m 2 (f<il l) (bd f l.length) (nq m [2,2,2,3,1] (f<il l) (cond (cond (f<il l) ((ix tCommit l f).1<c.1) false) (fz m tInt (w64 (f+1)) (λj=>g l c j)) (ck (0≤f&&f≤(l.length:Int)) (ck (lm (List.length ([]:List tCommit.den)+List.length (a.drop 0))) (ck (lm (List.length ([]++a.drop 0)+List.length ([c]:List tCommit.den))) (ck (0≤f&&f≤(l.length:Int)) (ck (lm (List.length ([]++a.drop 0++[c])+List.length (b.drop d))) (K ([]++a.drop 0++[c]++b.drop d)))))))))
def wG (m:Bool)(K:eh→Option C)(f:j8 C)(l:Λ)(c:tCommit.den):Option C:=f l c 0
def oQ:Nat→j8 eh:=lp (λ_ _ _=>none) λf=>mR false some f
def mS (l:Λ)(c:tCommit.den):Option eh:=wG false some (oQ FU) l c
def d7 (r:eh):AV :=.val (.slice tCommit) r
def JM:Ent:=evE (.cons (.slice tCommit) (.cons tCommit .unit)) d7 (zero (.slice tCommit)) λx=>mS x.1 x.2.1
def De:MS:=⟨1,[(0,[.dat tInt,.dat (.slice tInt),.dat (.slice tInt),.dat .str,.dat (.slice aa)])],[(0,.dat (.slice tCommit)),(3,.keep),(5,.dat tInt)]⟩
def JN:Par:=⟨bB.tab,az [],λ_=>look [],λ_=>look [(2,De)]⟩
def JO:KT:=bq bB.tab [.tmp 4] [(.slice tCommit)]
def JP:=h12 JN f27
def oP (f n:Nat):j8 AV:=λl c g=>aE 0 De (JP f 0 [1,1,0,0,0]) (ai 0 (aQ 0 none (JP f 0 [1,1,1]) JO)) n ⟨mkE 37 [(0,.val (.slice tCommit) l),(3,.box 0 0),(5,.val tInt g)],mkH 1 [(0,.box [.val tInt c.1,.val (.slice tInt) c.2.1,.val (.slice tInt) c.2.2.1,.val .str c.2.2.2.1,.val (.slice aa) c.2.2.2.2.1])]⟩
def P7 (f g:Nat):oP f (g+1)=mR true (sm d7) (oP f g):=Φ
def P8:∀n,oP FU n=mp3 d7 (oQ n):=bM Φ λf _ h=>(P7 FU f).trans (by rw[h];funext _ _ _;simp only[mR,ss])
def YE:ak prog 27 (JM):=evX func27 (S:=JN) ay (af trivial) (tys:=[(.slice tCommit)]) (λf x=>wG true (sm d7) (oP f f) x.1 x.2.1) (λx=>by show _=Option.map d7 _;rw[P8 FU];simp only[wG,mS,ss])
abbrev QY (C:Type):=Λ→Int→bg.den→(List Int)→Option C
abbrev ML (C:Type):=ah.den→Int→(List Int)→(List Int)→Str→Υ→Option C
def ky (m:Bool)(K:iQ→Option C):ML C:=λJ p l j g f=>cl m tInt (ng J (p,l,j,g,f,())) λr=>K ((p,l,j,g,f,()),decide (r=0),())
def nv (m:Bool)(K:iQ→Option C):QY C:=λl r1 d f=>cl m (.slice tInt) (tL l f) λp=>cl m ah (qX l p) λP=>cl m tInt (qt l (w64 ((1:Int)+r1))) λR=>cl m tInt (mod2_ev d.1 13) λr8=>cond (r8=12) (cl m tInt (mod2_ev d.2.2.1 (il l)) (λr9=>let a:=ix tCommit l r9;ck (bd r9 l.length) (fz m tInt (w64 (R+1)) (λj=>fz m (.slice tInt) [a.1] λJ=>fz m .str [100,101,101,100] λg=>fz m (.slice aa) a.2.2.2.2.1 λr=>ky m K P j p J g r)))) (cl m (.slice aa) (lS P d R) (λr10=>ck (lm (List.length ([]:List tCommit.den)+List.length l)) (ck (lm (List.length ([]++l)+List.length ([(0,p,[],[100,101,101,100],r10,())]:List tCommit.den))) (cl m tInt (qt ([]++l++[(0,p,[],[100,101,101,100],r10,())]) (w64 ((1:Int)+r1))) (λr11=>fz m tInt (w64 (r11+1)) λj=>fz m .str [100,101,101,100] λg=>ky m K P j p [] g r10)))))
def wU (m:Bool)(K:iQ→Option C)(l:Λ)(f:(List Int))(d:bg.den):Option C:=cl m tInt (mod2_ev d.2.1 3) λr1=>ck (!(3:Int)=0) (cl m tInt (mod2_ev (w64 (Int.tdiv d.2.1 3)) 3) (λr=>let a:=ut (w64 (w64 (il f-1)-r)) 0;ck (bd a f.length) (ck (!(9:Int)=0) (cl m tInt (mod2_ev (w64 (Int.tdiv d.2.1 9)) 3) (λp=>cond (p=0) (ck (!(27:Int)=0) (cl m tInt (mod2_ev (w64 (Int.tdiv d.2.1 27)) (il f)) (λj=>ck (bd j f.length) (ck (lm (List.length ([ix tInt f a]:List Int)+List.length ([ix tInt f j]:List Int))) (fz m (.slice tInt) ([ix tInt f a]++[ix tInt f j]) (λg=>nv m K l r1 d g)))))) (fz m (.slice tInt) [ix tInt f a] (λg=>nv m K l r1 d g)))))))
def nx (l:Λ)(f:(List Int))(d:bg.den):Option iQ:=wU false some l f d
def Kn:Ent:=evE (.cons (.slice tCommit) (.cons (.slice tInt) (.cons bg .unit))) ku (zero (.cons tCommit (.cons .bool .unit))) λx=>nx x.1 x.2.1 x.2.2.1
def QZ:MS:=⟨2,[(0,[.dat tInt,.dat tInt,.dat tInt,.dat tInt]),(1,[.dat tInt,.dat (.slice tInt),.dat (.slice tInt),.dat .str,.dat (.slice aa)])],[(0,.dat (.slice tCommit)),(5,.keep),(6,.keep),(8,.dat tInt),(10,.own tInt 3)]⟩
def MM:MS:=⟨14,[(0,[.drop,.drop,.drop,.drop]),(1,[.dat tInt,.dat (.slice tInt),.dat (.slice tInt),.dat .str,.dat (.slice aa)]),(7,[.dat tInt,.dat (.slice tInt),.dat (.slice tInt),.dat .str,.dat (.slice aa)]),(13,[.dat (.slice ag)])],[(6,.keep),(11,.keep),(12,.keep)]⟩
def Y3:Par:=⟨bB.tab,az [(18,yu),(52,UJ),(53,MY),(54,Vn),(55,IJ),(56,JY)],λ_=>look [(6,QZ),(14,MM)],λ_=>look []⟩
def Y2:ak prog 26 (Kn):=evX func26 (S:=Y3) ay (af ⟨mod2_x,ad2,Wk,ae9,WC,YP,apj⟩) (tys:=[tCommit,.bool]) (λf x=>wU true (sm ku) x.1 x.2.1 x.2.2.1) (λx=>by show _=Option.map ku _;simp only[wU,nx,ky,nv,ss])
abbrev fB (C:Type):=La'→Λ→(List Int)→Int→Option C
abbrev Mm (C:Type):=La'→Int→Λ→(List Int)→Option C
def kg (m:Bool)(K:eh→Option C)(g:fB C):Mm C:=λl i out f=>fz m tInt (w64 (i+1)) λj=>g l out f j
def j9 (m:Bool)(K:eh→Option C)(g:fB C):fB C:=λl out f i=>nq m [2,1] (i<il l) (cond (cond (i<il l) (i<9) false) (ck (bd i l.length) (cl m (.cons tCommit (.cons .bool .unit)) (nx out f (ix bg l i)) (λj=>cond j.2.1 (cl m (.slice tCommit) (mS out j.1) (λr=>ck (lm (List.length f+List.length ([j.1.1]:List Int))) (fz m (.slice tInt) (f++[j.1.1]) (λp=>kg m K g l i r p)))) (kg m K g l i out f)))) (K out))
def sE (m:Bool)(K:eh→Option C)(f:fB C)(first:Int)(l:La'):Option C:=ce m tCommit true (firstF first) λr1=>fz m (.slice tCommit) [r1] λj=>fz m (.slice tInt) [r1.1] λg=>f l j g 0
def kY:Nat→fB eh:=lp (λ_ _ _ _=>none) λf=>j9 false some f
def kh (first:Int)(l:La'):Option eh:=sE false some (kY FU) first l
def G2:Ent:=evE (.cons tInt (.cons (.slice bg) .unit)) d7 (zero (.slice tCommit)) λx=>kh x.1 x.2.1
def sF:MS:=⟨0,[],[(1,.dat (.slice bg)),(6,.dat (.slice tCommit)),(7,.own tInt 3),(8,.dat tInt)]⟩
def G3:Par:=⟨bB.tab,az [(25,Qs),(26,Kn),(27,JM)],λ_=>look [(6,sF)],λ_=>look [(5,sF)]⟩
def G4:=h12 G3 f7
def kX (f n:Nat):fB AV:=λl out g i=>aE 0 sF (G4 f 0 [1,1,1,1,0,1,0,0]) (ai 0 (aQ 0 none (G4 f 0 [1,1,1,1,1]) JO)) n ⟨mkE 48 [(1,.val (.slice bg) l),(6,.val (.slice tCommit) out),(7,.own 0 0 tInt g),(8,.val tInt i)],mkH 1 [(0,.row tInt 3 0)]⟩
def Mn (f g:Nat):kX f (g+1)=j9 true (sm d7) (kX f g):=Φ
def Mo:∀n,kX FU n=mp4 d7 (kY n):=bM Φ λf _ h=>(Mn FU f).trans (by rw[h];funext _ _ _ _;simp only[j9,kg,ss])
def TR:ak prog 7 (G2):=evX func7 (S:=G3) ay (af ⟨ab7,Y2,YE,apj⟩) (tys:=[(.slice tCommit)]) (λf x=>sE true (sm d7) (kX f f) x.1 x.2.1) (λx=>by show _=Option.map d7 _;rw[Mo FU];simp only[sE,kh,kg,ss])
def AO (m:Bool)(K:(List Int)→Option C)(l:Λ):Option C:=cl m (.slice tInt) (qR l) λr1=>K r1
def wK (l:Λ):Option (List Int):=AO false some l
def Qi:Ent:=evE (.cons (.slice tCommit) .unit) ap (zero (.slice tInt)) λx=>wK x.1
def abW:Par:=⟨bB.tab,az [(151,Qg)],λ_=>look [],λ_=>look []⟩
def abV:ak prog 107 (Qi):=evX func107 (S:=abW) ay (af ⟨abU,apj⟩) (tys:=[(.slice tInt)]) (λf x=>AO true (sm ap) x.1) (λx=>by show _=Option.map ap _;simp only[AO,wK,ss])
def Wm (m:Bool)(K:ah.den→Option C)(l:Λ):Option C:=cl m (.slice tInt) (wK l) λr1=>cl m ah (qX l r1) λf=>K f
def CB (l:Λ):Option ah.den:=Wm false some l
def ady:Ent:=evE (.cons (.slice tCommit) .unit) bk (zero ah) λx=>CB x.1
def ajC:Par:=⟨bB.tab,az [(107,Qi),(53,MY)],λ_=>look [],λ_=>look []⟩
def ag8:ak prog 57 (ady):=evX func57 (S:=ajC) ay (af ⟨abV,Wk,apj⟩) (tys:=[ah]) (λf x=>Wm true (sm bk) x.1) (λx=>by show _=Option.map bk _;simp only[Wm,CB,ss])
end
