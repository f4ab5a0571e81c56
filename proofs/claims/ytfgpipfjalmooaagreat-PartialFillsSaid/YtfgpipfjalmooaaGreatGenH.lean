/- The equations of the program's functions. -/
import Derived.Test.YtfgpipfjalmooaaGreatChainW
import Derived.Test.YtfgpipfjalmooaaGreatFirG
set_option linter.all false
noncomputable section
namespace Go.Proofs.YtfgpipfjalmooaaGreat
namespace Abs
open Go Tryz
section
def bB:TabL:={
 ty:=[(3,tInt),(4,.bool),(5,(.int .u8)),(9,.str),(22,(.slice aX)),(23,(.slice tInt)),(24,(.slice tCommit)),(36,(.slice aa)),(38,tCommit),(42,aJ),(44,aa),(45,tInt),(60,aX),(87,aO),(94,(.slice ah)),(96,ai),(120,(.slice (.slice tInt))),(144,(.slice eO)),(146,ah),(168,eO),(179,(.slice (.int .u8)))],
 cells:=[(3,1),(4,1),(5,1),(9,1),(22,1),(23,1),(24,1),(36,1),(38,5),(42,4),(44,6),(45,1),(60,4),(87,1),(94,1),(96,1),(120,1),(144,1),(146,3),(168,5),(179,1)],
 offs:=[((38,0),0),((38,1),1),((38,2),2),((38,3),3),((38,4),4),((42,0),0),((42,1),1),((42,2),2),((42,3),3),((44,0),0),((44,1),1),((44,2),2),((60,0),0),((60,1),1),((60,2),2),((60,3),3),((87,0),0),((96,0),0),((146,0),0),((146,1),1),((146,2),2),((168,0),0),((168,1),1)],
 one:=[],
 elem:=[(22,60),(23,3),(24,38),(36,44),(94,146),(120,23),(144,168),(179,5)] }
def Ou:TabL:={
 ty:=[(3,tInt),(4,.bool),(5,(.int .u8)),(9,.str),(22,(.slice aX)),(23,(.slice tInt)),(24,(.slice tCommit)),(36,(.slice aa)),(38,tCommit),(42,aJ),(44,aa),(45,tInt),(60,aX),(87,aO),(94,(.slice ah)),(96,ai),(120,(.slice (.slice tInt))),(144,(.slice eO)),(146,ah),(168,eO),(179,(.slice (.int .u8)))],
 cells:=[(3,1),(4,1),(5,1),(9,1),(22,1),(23,1),(24,1),(36,1),(38,5),(42,4),(44,6),(45,1),(60,4),(87,1),(94,1),(96,1),(120,1),(144,1),(146,3),(168,5),(179,1)],
 offs:=[((38,0),0),((38,1),1),((38,2),2),((38,3),3),((38,4),4),((42,0),0),((42,1),1),((42,2),2),((42,3),3),((44,0),0),((44,1),1),((44,2),2),((60,0),0),((60,1),1),((60,2),2),((60,3),3),((87,0),0),((96,0),0),((146,0),0),((146,1),1),((146,2),2),((168,0),0),((168,1),1)],
 one:=[],
 inp:=[22,23,24,36,94,120,144,179],
 elem:=[(22,60),(23,3),(24,38),(36,44),(94,146),(120,23),(144,168),(179,5)] }
def aA:TabOk prog bB.tab:=TabL.ok Φ
def Ot:TabOk prog Ou.tab:=TabL.ok Φ
variable{C:Type}
def rQ (m:Bool)(K:Bool→Option C)(id:Int):Option C:=let a:Bool:=cond (id>1048576) (id<34603008) false;nq m [2,1] (id>1048576) (nm m 1 a (!(1048576:Int)=0) (nq m [2,1] a (K (cond a (!Int.tmod id 1048576=0) false))))
def bW (id:Int):Option Bool:=rQ false some id
def eL:Ent:=evE (.cons tInt .unit) ac (zero .bool) λx=>bW x.1
def rR:Par:=⟨bB.tab,az [],λ_=>look [],λ_=>look []⟩
def gz:ar prog 146 (eL):=evX func146 (S:=rR) aA (ag trivial) (tys:=[.bool]) (λf x=>rQ true (sm ac) x.1) (λx=>by show _=Option.map ac _;simp only[rQ,bW,ss])
abbrev jP (C:Type):=Str→Int→Option C
def mn (m:Bool)(K:Bool→Option C)(g:jP C):jP C:=λf i=>let b:Bool:=!ixs f i<97;let a:=bd i f.length;cond (i<il f) (ck a (nm m 2 b a (nq m [2,0] b (cond (cond (ixs f i<97) true (ixs f i>122)) (K false) (fz m tInt (w64 (i+1)) (λj=>g f j)))))) (K true)
def vT (m:Bool)(K:Bool→Option C)(g:jP C)(f:Str):Option C:=let c:Bool:=il f>60;let b:=w64 (il f-1);let a:Bool:=!cond (il f<1) true c;nq m [2,2,0] (!il f<1) (nq m [2,2] a (nm m 2 a (bd b f.length) (nq m [2,0] a (cond (cond (cond (il f<1) true c) true (ixs f b=97)) (K false) (g f 0)))))
def oH:Nat→jP Bool:=lp (λ_ _=>none) λf=>mn false some f
def mo (f:Str):Option Bool:=vT false some (oH FU) f
def Jn:Ent:=evE (.cons .str .unit) ac (zero .bool) λx=>mo x.1
def Dg:MS:=⟨0,[],[(0,.dat .str),(3,.dat tInt)]⟩
def Jo:Par:=⟨bB.tab,az [],λ_=>look [],λ_=>look [(4,Dg)]⟩
def i9:KT:=bg bB.tab [.tmp 2] [.bool]
def h13 (S:Par)(f:Func)(g j:Nat)(p:List Nat):Sg→KT→Option AV:=xc (bn fi0 hs0 g 0) S j g (sub (f.body.getD .skip) p)
def Jp:=h13 Jo f234
def oG (f n:Nat):jP AV:=λg i=>aE 0 Dg (Jp f 0 [1,1,0,1,0,0]) (aj 0 (aL 0 none (Jp f 0 [1,1,1]) i9)) n ⟨mkE 36 [(0,.val .str g),(3,.val tInt i)],mkH 0 []⟩
def Ob (f g:Nat):oG f (g+1)=mn true (sm ac) (oG f g):=Φ
def Oc:∀n,oG FU n=mp2 ac (oH n):=bo Φ λf _ h=>(Ob FU f).trans (by rw[h];funext _ _;simp only[mn,ss])
def Xg:ar prog 234 (Jn):=evX func234 (S:=Jo) aA (ag trivial) (tys:=[.bool]) (λf x=>vT true (sm ac) (oG f f) x.1) (λx=>by show _=Option.map ac _;rw[Oc FU];simp only[vT,mo,ss])
def oU (m:Bool)(K:Bool→Option C)(a:aa.den)(b:aa.den):Option C:=nq m [2,2,3,1] (a.1=b.1) (K (cond (a.1=b.1) (decide (a.2.1=b.2.1)) false))
def fA (a:aa.den)(b:aa.den):Option Bool:=oU false some a b
def DB:Ent:=evE (.cons aa (.cons aa .unit)) ac (zero .bool) λx=>fA x.1 x.2.1
def Pa:ar prog 323 (DB):=evX func323 (S:=rR) aA (ag trivial) (tys:=[.bool]) (λf x=>oU true (sm ac) x.1 x.2.1) (λx=>by show _=Option.map ac _;simp only[oU,fA,ss])
def B7 (m:Bool)(K:Bool→Option C)(a:aa.den)(b:aa.den):Option C:=cond (!a.1=b.1) (K (decide (a.1<b.1))) (K (decide (a.2.1<b.2.1)))
def jz (a:aa.den)(b:aa.den):Option Bool:=B7 false some a b
def In:Ent:=evE (.cons aa (.cons aa .unit)) ac (zero .bool) λx=>jz x.1 x.2.1
def RQ:ar prog 322 (In):=evX func322 (S:=rR) aA (ag trivial) (tys:=[.bool]) (λf x=>B7 true (sm ac) x.1 x.2.1) (λx=>by show _=Option.map ac _;simp only[B7,jz,ss])
abbrev bx:=Υ
abbrev wC (C:Type):=Υ→Int→Υ→Int→Option C
abbrev aeS (C:Type):=Υ→Int→Int→Υ→Option C
def GI (m:Bool)(K:bx→Option C)(f:wC C):aeS C:=λl id i out=>fz m tInt (w64 (i+1)) λg=>f l id out g
def GH (m:Bool)(K:bx→Option C)(f:wC C):wC C:=λl id out i=>let a:=bd i l.length;cond (i<il l) (ck a (cond ((ix aa l i).1=id) (ck a (ck (lm (List.length out+List.length ([ix aa l i]:List aa.den))) (fz m (.slice aa) (out++[ix aa l i]) (λg=>GI m K f l id i g)))) (GI m K f l id i out))) (K out)
def VF (m:Bool)(K:bx→Option C)(f:wC C)(l:Υ)(id:Int):Option C:=f l id [] 0
def EA:Nat→wC bx:=lp (λ_ _ _ _=>none) λf=>GH false some f
def GJ (l:Υ)(id:Int):Option bx:=VF false some (EA FU) l id
def bE (r:bx):AV :=.val (.slice aa) r
def agu:Ent:=evE (.cons (.slice aa) (.cons tInt .unit)) bE (zero (.slice aa)) λx=>GJ x.1 x.2.1
def Mx:MS:=⟨0,[],[(0,.dat (.slice aa)),(1,.dat tInt),(5,.own aa 44),(6,.dat tInt)]⟩
def agv:Par:=⟨bB.tab,az [],λ_=>look [(4,Mx)],λ_=>look [(3,Mx)]⟩
def abe:KT:=bg bB.tab [.tmp 4] [(.slice aa)]
def agw:=h13 agv f144
def Ez (f n:Nat):wC AV:=λl id out i=>aE 0 Mx (agw f 0 [1,1,0,1,0,0]) (aj 0 (aL 0 none (agw f 0 [1,1,1]) abe)) n ⟨mkE 28 [(0,.val (.slice aa) l),(1,.val tInt id),(5,.own 0 0 aa out),(6,.val tInt i)],mkH 1 [(0,.row aa 44 0)]⟩
def aeT (f g:Nat):Ez f (g+1)=GH true (sm bE) (Ez f g):=Φ
def aeU:∀n,Ez FU n=mp4 bE (EA n):=bo Φ λf _ h=>(aeT FU f).trans (by rw[h];funext _ _ _ _;simp only[GH,GI,ss])
def aiK:ar prog 144 (agu):=evX func144 (S:=agv) aA (ag trivial) (tys:=[(.slice aa)]) (λf x=>VF true (sm bE) (Ez f f) x.1 x.2.1) (λx=>by show _=Option.map bE _;rw[aeU FU];simp only[VF,GJ,GI,ss])
abbrev bj (C:Type):=Υ→Int→Option C
def agf (g:aa.den)(f:aa.den):Bool:=(jz g f).isSome
def agh (g:aa.den)(f:aa.den):Bool:=(jz g f).getD (zero .bool)
def ma (m:Bool)(K:Bool→Option C)(j:bj C):bj C:=λl i=>let g:=w64 (i-1);let h:=ix aa l g;let e:=bd i l.length;let c:=ix aa l i;cond (i<il l) (ck e (cl m .bool (bW c.1) (λr1=>let f:Bool:=!cond (!r1) true (c.2.1<1);let b:Bool:=cond (!r1) true (c.2.1<1);let d:Bool:=!cond b true (c.2.1≥48);let a:Bool:=!cond b true (c.2.1≥48)&&i>0;nm m 2 (!!r1) e (nq m [2,2,2,0] (!!r1) (nm m 2 f e (nq m [2,2,2,0] f (nq m [2,2] d (nq m [2] a (nm m 2 a (bd g l.length) (nq m [2] a (nm m 2 a e (nq m [2] a (nm m 2 a (agf h c) (nq m [2] a (nm m 0 d (ii a&&true) (nq m [0] d (cond (cond (cond b true (c.2.1≥48)) true (cond (i>0) (!agh h c) false)) (K false) (fz m tInt (w64 (i+1)) (λp=>j l p))))))))))))))))))) (K true)
def vL (m:Bool)(K:Bool→Option C)(f:bj C)(l:Υ):Option C:=f l 0
def oh:Nat→bj Bool:=lp (λ_ _=>none) λf=>ma false some f
def mb (l:Υ):Option Bool:=vL false some (oh FU) l
def I8:Ent:=evE (.cons (.slice aa) .unit) ac (zero .bool) λx=>mb x.1
def gN:MS:=⟨0,[],[(0,.dat (.slice aa)),(3,.dat tInt)]⟩
def I9:Par:=⟨bB.tab,az [(146,eL),(322,In)],λ_=>look [],λ_=>look [(2,gN)]⟩
def Ja:=h13 I9 f287
def og (f n:Nat):bj AV:=λl i=>aE 0 gN (Ja f 0 [1,0,1,0,0]) (aj 0 (aL 0 none (Ja f 0 [1,1]) i9)) n ⟨mkE 50 [(0,.val (.slice aa) l),(3,.val tInt i)],mkH 0 []⟩
def NH (f g:Nat):og f (g+1)=ma true (sm ac) (og f g):=Φ
def NI:∀n,og FU n=mp2 ac (oh n):=bo Φ λf _ h=>(NH FU f).trans (by rw[h];funext _ _;simp only[ma,ss])
def W8:ar prog 287 (I8):=evX func287 (S:=I9) aA (ag ⟨gz,RQ,aoG⟩) (tys:=[.bool]) (λf x=>vL true (sm ac) (og f f) x.1) (λx=>by show _=Option.map ac _;rw[NI FU];simp only[vL,mb,ss])
def mj (m:Bool)(K:Bool→Option C)(f:bj C):bj C:=λl i=>cond (i<il l) (ck (bd i l.length) (cond (eqD aJ (ix aa l i).2.2.1 (0,false,[],0,())) (K false) (fz m tInt (w64 (i+1)) (λg=>f l g)))) (cl m .bool (mb l) (λr1=>K r1))
def vS (m:Bool)(K:Bool→Option C)(f:bj C)(l:Υ):Option C:=f l 0
def oF:Nat→bj Bool:=lp (λ_ _=>none) λf=>mj false some f
def ml (l:Υ):Option Bool:=vS false some (oF FU) l
def Jj:Ent:=evE (.cons (.slice aa) .unit) ac (zero .bool) λx=>ml x.1
def Jl:Par:=⟨bB.tab,az [(287,I8)],λ_=>look [],λ_=>look [(2,gN)]⟩
def Jm:=h13 Jl f232
def oE (f n:Nat):bj AV:=λl i=>aE 0 gN (Jm f 0 [1,0,1,0,0]) (aj 0 (aL 0 none (Jm f 0 [1,1]) i9)) n ⟨mkE 19 [(0,.val (.slice aa) l),(3,.val tInt i)],mkH 0 []⟩
def N8 (f g:Nat):oE f (g+1)=mj true (sm ac) (oE f g):=Φ
def N9:∀n,oE FU n=mp2 ac (oF n):=bo Φ λf _ h=>(N8 FU f).trans (by rw[h];funext _ _;simp only[mj,ss])
def Xf:ar prog 232 (Jj):=evX func232 (S:=Jl) aA (ag ⟨W8,aoG⟩) (tys:=[.bool]) (λf x=>vS true (sm ac) (oE f f) x.1) (λx=>by show _=Option.map ac _;rw[N9 FU];simp only[vS,ml,ss])
abbrev mi (C:Type):=aO.den→Int→Int→Int→Int→Option C
def F4 (g:aa.den)(f:aa.den):Bool:=(fA g f).isSome
def SV (g:aa.den)(f:aa.den):Bool:=(fA g f).getD (zero .bool)
def qb (m:Bool)(K:aJ.den→Option C)(j:mi C):mi C:=λf id field g r=>let c:=bd g f.1.length;let b:=ix aa f.1 g;let a:=Int.tdiv (w64 (g+r)) 2;let d:=w64 a;cond (g<r) (ck (!(2:Int)=0) (ck (bd d f.1.length) (cl m .bool (jz (ix aa f.1 d) (id,field,(0,false,[],0,()),())) (λr1=>cond r1 (fz m tInt (w64 (w64 a+1)) (λp=>j f id field p r)) (fz m tInt d (λl=>j f id field g l)))))) (nq m [2] (g<il f.1) (nm m 2 (g<il f.1) c (nq m [2] (g<il f.1) (nm m 2 (g<il f.1) (F4 b (id,field,(0,false,[],0,()),())) (nq m [1] (g<il f.1) (cond (cond (g<il f.1) (SV b (id,field,(0,false,[],0,()),())) false) (ck c (K b.2.2.1)) (K (0,false,[],0,()))))))))
def zo (m:Bool)(K:aJ.den→Option C)(f:mi C)(j:aO.den)(id:Int)(field:Int):Option C:=fz m tInt (il j.1) λg=>f j id field 0 g
def rP:Nat→mi aJ.den:=lp (λ_ _ _ _ _=>none) λf=>qb false some f
def vR (f:aO.den)(id:Int)(field:Int):Option aJ.den:=zo false some (rP FU) f id field
def cQ (r:aJ.den):AV :=.val aJ r
def N4:Ent:=evE (.cons aO (.cons tInt (.cons tInt .unit))) cQ (zero aJ) λx=>vR x.1 x.2.1 x.2.2.1
def Fb:MS:=⟨6,[(0,[.dat (.slice aa)]),(1,[.dat tInt,.dat .bool,.dat .str,.dat tInt]),(5,[.dat tInt,.dat tInt,.dat tInt,.dat .bool,.dat .str,.dat tInt])],[(3,.keep),(6,.keep),(7,.keep),(8,.dat tInt),(9,.dat tInt)]⟩
def N5:Par:=⟨bB.tab,az [(322,In),(323,DB)],λ_=>look [],λ_=>look [(3,Fb)]⟩
def Z4:KT:=bg bB.tab [.cell 6 42] [aJ]
def N6:=h13 N5 f288
def rO (f n:Nat):mi AV:=λg id field j l=>aE 0 Fb (N6 f 0 [1,1,1,0,0,0]) (aj 0 (aL 0 none (N6 f 0 [1,1,1,1]) Z4)) n ⟨mkE 55 [(3,.box 0 0),(6,.box 1 0),(7,.box 5 0),(8,.val tInt j),(9,.val tInt l)],mkH 6 [(0,.box [.val (.slice aa) g.1]),(1,.box [.val tInt (0:Int),.val .bool false,.val .str [],.val tInt (0:Int)]),(5,.box [.val tInt id,.val tInt field,.val tInt (0:Int),.val .bool false,.val .str [],.val tInt (0:Int)])]⟩
def R9 (f g:Nat):rO f (g+1)=qb true (sm cQ) (rO f g):=Φ
def Sa:∀n,rO FU n=mp5 cQ (rP n):=bo Φ λf _ h=>(R9 FU f).trans (by rw[h];funext _ _ _ _ _;simp only[qb,ss])
def ZZ:ar prog 288 (N4):=evX func288 (S:=N5) aA (ag ⟨RQ,Pa,aoG⟩) (tys:=[aJ]) (λf x=>zo true (sm cQ) (rO f f) x.1 x.2.1 x.2.2.1) (λx=>by show _=Option.map cQ _;rw[Sa FU];simp only[zo,vR,ss])
def MY (m:Bool)(K:aJ.den→Option C)(f:aO.den)(id:Int)(field:Int):Option C:=cl m aJ (vR f id field) λr1=>K r1
def Bj (f:aO.den)(id:Int)(field:Int):Option aJ.den:=MY false some f id field
def ab2:Ent:=evE (.cons aO (.cons tInt (.cons tInt .unit))) cQ (zero aJ) λx=>Bj x.1 x.2.1 x.2.2.1
def ahO:Par:=⟨bB.tab,az [(288,N4)],λ_=>look [],λ_=>look []⟩
def ahN:ar prog 233 (ab2):=evX func233 (S:=ahO) aA (ag ⟨ZZ,aoG⟩) (tys:=[aJ]) (λf x=>MY true (sm cQ) x.1 x.2.1 x.2.2.1) (λx=>by show _=Option.map cQ _;simp only[MY,Bj,ss])
abbrev lT (C:Type):=aO.den→(List Int)→Int→Option C
abbrev YW (C:Type):=Int→aO.den→(List Int)→Option C
def u6 (m:Bool)(K:(List Int)→Option C)(f:lT C):YW C:=λi j l=>fz m tInt (w64 (i+1)) λg=>f j l g
def u5 (m:Bool)(K:(List Int)→Option C)(f:lT C):lT C:=λg l i=>let d:=w64 (i-1);let c:=bd i g.1.length;let b:Bool:=!i=0;let a:=ix aa g.1 i;cond (i<il g.1) (nq m [2] b (nm m 2 b c (nq m [2,2,2,2] b (nm m 2 b (bd d g.1.length) (nq m [2,2,3,0] b (cond (cond (i=0) true (! a.1=(ix aa g.1 d).1)) (ck c (ck (lm (List.length l+List.length ([a.1]:List Int))) (fz m (.slice tInt) (l++[a.1]) (λj=>u6 m K f i g j)))) (u6 m K f i g l))))))) (K l)
def EI (m:Bool)(K:(List Int)→Option C)(f:lT C)(g:aO.den):Option C:=f g [] 0
def wW:Nat→lT (List Int):=lp (λ_ _ _=>none) λf=>u5 false some f
def u7 (f:aO.den):Option (List Int):=EI false some (wW FU) f
def aq (r:(List Int)):AV :=.val (.slice tInt) r
def Wh:Ent:=evE (.cons aO .unit) aq (zero (.slice tInt)) λx=>u7 x.1
def CH:MS:=⟨1,[(0,[.dat (.slice aa)])],[(1,.keep),(3,.own tInt 3),(4,.dat tInt)]⟩
def Wi:Par:=⟨bB.tab,az [],λ_=>look [(4,CH)],λ_=>look [(3,CH)]⟩
def MP:KT:=bg bB.tab [.tmp 2] [(.slice tInt)]
def Wj:=h13 Wi f184
def wV (f n:Nat):lT AV:=λg l i=>aE 0 CH (Wj f 0 [1,1,0,1,0,0]) (aj 0 (aL 0 none (Wj f 0 [1,1,1]) MP)) n ⟨mkE 40 [(1,.box 0 0),(3,.own 1 0 tInt l),(4,.val tInt i)],mkH 2 [(0,.box [.val (.slice aa) g.1]),(1,.row tInt 3 0)]⟩
def YX (f g:Nat):wV f (g+1)=u5 true (sm aq) (wV f g):=Φ
def YY:∀n,wV FU n=mp3 aq (wW n):=bo Φ λf _ h=>(YX FU f).trans (by rw[h];funext _ _ _;simp only[u5,u6,ss])
def aff:ar prog 184 (Wh):=evX func184 (S:=Wi) aA (ag trivial) (tys:=[(.slice tInt)]) (λf x=>EI true (sm aq) (wV f f) x.1) (λx=>by show _=Option.map aq _;rw[YY FU];simp only[EI,u7,u6,ss])
def qd (f:Int):Bool:=(bW f).isSome
def gP (f:Int):Bool:=(bW f).getD (zero .bool)
def rZ (m:Bool)(K:Bool→Option C)(v:aJ.den):Option C:=let j:=decide (v.1<5);let i:=K false;let h:=decide (v.1=12);let f:Bool:=!decide (v.1=16);let e:=bif h then true else(decide (v.1=16));let d:=decide (v.2.2.2.1=0);let c:Bool:=!decide (v.2.2.2.1=0);let b:=bif e then true else(decide (v.1=9));let g:=bif c then(! b)else false;let a:=bif j then true else(decide (v.1>22));(nq m [2,2,0] (! j) (nq m [2,2,2] (! a) (nq m [2] ((! a)&&c) (nm m 1 ((! a)&&c) (qd (v.2.2.2.1)) (nq m [2] ((! a)&&c) (nm m 0 (! a) ((ii ((! a)&&c))&&true) (nq m [0] (! a) (bif (bif a then true else(bif c then(!(gP (v.2.2.2.1)))else false))then i else(nq m [2,2,0] (! h) (nq m [2,2,0] (! e) (nq m [2,1] c (nq m [2,2,1] g (bif (bif g then(!decide (v.1=17))else false)then i else(nq m [2,2,2] (v.2.1) (nq m [2,2,2] (v.2.1&&(! d)) (nq m [2,2] ((v.2.1&&(! d))&&f) (nm m 0 (v.2.1&&(! d)) ((ii ((v.2.1&&(! d))&&f))&&true) (nm m 0 (v.2.1) (ii (v.2.1&&(! d))) (nq m [1] (v.2.1) (bif (bif v.2.1 then(bif d then true else(bif f then(!decide (v.1=9))else false))else false)then i else(nq m [2,2,1] b (bif (bif b then c else false)then(K (decide (v.2.2.1=[])))else(cl m .bool (iy (v.1) (v.2.2.1)) λr1=>(K r1))))))))))))))))))))))))
def jV (v:aJ.den):Option Bool:=rZ false some v
def FB:Ent:=evE (.cons aJ .unit) ac (zero .bool) λx=>jV x.1
def SA:Par:=⟨bB.tab,az [(146,eL),(273,Dk)],λ_=>look [],λ_=>look []⟩
def Sz:ar prog 236 (FB):=evX func236 (S:=SA) aA (ag ⟨gz,Oo,aoG⟩) (tys:=[.bool]) (λf x=>rZ true (sm ac) x.1) (λx=>by show _=Option.map ac _;simp only[rZ,jV,ss])
def aaf (g:Str)(f:Bool):Bool:=(ja g f).isSome
def aag (g:Str)(f:Bool):Bool:=(ja g f).getD (zero .bool)
def w5 (m:Bool)(K:Bool→Option C)(g:Int)(field:Int)(v:aJ.den):Option C:=let f:=K false;let e:=cond (v.1<0) true (v.1>3);let d:Bool:=cond (g=1) (decide (field=10)) false;let c:Bool:=eqD aJ v (0,false,v.2.2.1,0,())&&g=1;let b:Bool:=!cond e true v.2.1;let a:=eqD aJ v (0,false,v.2.2.1,0,());cond (eqD aJ v (0,false,[],0,())) (K true) (nq m [2,0] (!g<1) (cond (cond (g<1) true (g>5)) f (cond (field=1) (K (eqD aJ v (g,false,[],0,()))) (nq m [2,1] (field=2) (cond (cond (field=2) (g=1) false) (K (eqD aJ v (1,false,[],0,()))) (cond (field=2) (nq m [2,2,0] (!v.1<0) (nq m [2,0] (!cond (v.1<0) true (v.1>3)) (nq m [2] b (nm m 1 b (qd v.2.2.2.1) (nq m [2,0] b (cond (cond (cond e true v.2.1) true (!gP v.2.2.2.1)) f (cond (v.1=0) (cl m .bool (mo v.2.2.1) (λr1=>K r1)) (K (decide (v.2.2.1=[])))))))))) (nq m [2,1] (field=3) (cond (cond (field=3) (!g=5) false) (cl m tInt (lY v.2.2.1) (λj=>cond (!eqD aJ v (0,false,v.2.2.1,0,())) f (nq m [2,0] (!g=1) (cond (cond (g=1) true (g=3)) (K (decide (j=2))) (K (decide (j=1))))))) (nq m [2,1] (field=4) (cond (cond (field=4) (g=5) false) (cl m .bool (jV v) (λl=>K l)) (nq m [2,1] (field≥8) (cond (cond (field≥8) (field<48) false) (nq m [2,2,2] a (nq m [2] c (nm m 0 a (ii c&&true) (nm m 2 a (aaf v.2.2.1 d) (nq m [1] a (K (cond a (aag v.2.2.1 d) false))))))) f))))))))))))
def jo (f:Int)(field:Int)(v:aJ.den):Option Bool:=w5 false some f field v
def CN:Ent:=evE (.cons tInt (.cons tInt (.cons aJ .unit))) ac (zero .bool) λx=>jo x.1 x.2.1 x.2.2.1
def Y5:Par:=⟨bB.tab,az [(146,eL),(234,Jn),(235,H9),(236,FB),(237,Jr)],λ_=>look [],λ_=>look []⟩
def KC:ar prog 186 (CN):=evX func186 (S:=Y5) aA (ag ⟨gz,Xg,Rw,Sz,Xl,aoG⟩) (tys:=[.bool]) (λf x=>w5 true (sm ac) x.1 x.2.1 x.2.2.1) (λx=>by show _=Option.map ac _;simp only[w5,jo,ss])
abbrev gE (C:Type):=aO.den→Int→Bool→Bool→Int→Option C
abbrev Dq (C:Type):=aO.den→Int→Int→Bool→Bool→Option C
def qm (m:Bool)(K:Bool→Option C)(j:gE C):Dq C:=λp i g named f=>fz m tInt (w64 (i+1)) λl=>j p g named f l
def jc (m:Bool)(K:Bool→Option C)(r:gE C):Dq C:=λR i l named p=>let k:=w64 (i+1);let j:=il R.1-1;let d:=bd i R.1.length;let c:Bool:=!i=w64 j;let b:=ix aa R.1 i;let g:=cond named true (decide (b.2.1=3));let f:=cond p true (decide (b.2.1=4));let a:Bool:=!cond p true (b.2.1=4);let h:Bool:=!cond (l=5) a false&&!l=5;let e:Bool:=!cond (l=5) a false;ck d (ck d (cl m .bool (jo l b.2.1 b.2.2.1) (λT=>cond (!T) (K false) (nm m 2 (!named) d (nq m [2,2,2,0] (!named) (nm m 2 (!p) d (nq m [2,2,2,0] (!p) (nq m [2] c (nm m 2 c (bd k R.1.length) (nq m [2,2] c (nm m 2 c d (nq m [2,2,3,0] c (cond (cond (i=w64 j) true (!(ix aa R.1 k).1=b.1)) (nq m [2,1] (l=5) (nq m [2,2] e (nq m [2] h (nm m 0 e (ii h&&true) (nq m [0] e (cond (cond (cond (l=5) a false) true (cond (!l=5) (!cond named true (b.2.1=3)) false)) (K false) (fz m .bool g (λP=>fz m .bool f λJ=>qm m K r R i l P J)))))))) (fz m .bool g (λP=>fz m .bool f λJ=>qm m K r R i l P J)))))))))))))))
def ql (m:Bool)(K:Bool→Option C)(g:gE C):gE C:=λj l named f i=>let d:=w64 (i-1);let c:Bool:=!i=0;let b:=ix aa j.1 i;let a:=bd i j.1.length;cond (i<il j.1) (nm m 2 c a (nq m [2,2,2] c (nm m 2 c (bd d j.1.length) (nq m [2,2,3,0] c (cond (cond (i=0) true (! b.1=(ix aa j.1 d).1)) (ck a (cond (! b.2.1=1) (K false) (ck a (fz m tInt b.2.2.1.1 (λp=>jc m K g j i p false false))))) (jc m K g j i l named f)))))) (K true)
def zG (m:Bool)(K:Bool→Option C)(f:gE C)(g:aO.den):Option C:=cl m .bool (ml g.1) λr1=>cond (!r1) (K false) (f g 0 false false 0)
def my:Nat→gE Bool:=lp (λ_ _ _ _ _=>none) λf=>ql false some f
def qp (f:aO.den):Option Bool:=zG false some (my FU) f
def OA:Ent:=evE (.cons aO .unit) ac (zero .bool) λx=>qp x.1
def rU:MS:=⟨0,[],[(3,.dat (.slice aa)),(4,.dat tInt),(5,.dat .bool),(6,.dat .bool),(7,.dat tInt)]⟩
def OB:Par:=⟨bB.tab,az [(232,Jj),(186,CN)],λ_=>look [(12,rU),(7,rU)],λ_=>look [(6,rU)]⟩
def OC:=h13 OB f183
def rV (g n:Nat):gE AV:=λl j named f i=>aE 0 rU (OC g 0 [1,1,1,1,0,1,0,0]) (aj 0 (aL 0 none (OC g 0 [1,1,1,1,1]) i9)) n ⟨mkE 111 [(3,.val (.slice aa) l.1),(4,.val tInt j),(5,.val .bool named),(6,.val .bool f),(7,.val tInt i)],mkH 0 []⟩
def Sn (f g:Nat):rV f (g+1)=ql true (sm ac) (rV f g):=Φ
def So:∀n,rV FU n=mp5 ac (my n):=bo Φ λf _ h=>(Sn FU f).trans (by rw[h];funext _ _ _ _ _;simp only[ql,jc,qm,ss])
def aaw:ar prog 183 (OA):=evX func183 (S:=OB) aA (ag ⟨Xf,KC,aoG⟩) (tys:=[.bool]) (λf x=>zG true (sm ac) (rV f f) x.1) (λx=>by show _=Option.map ac _;rw[So FU];simp only[zG,qp,jc,qm,ss])
abbrev iL (C:Type):=Int→Int→aO.den→Int→Int→Option C
def j8 (m:Bool)(K:Bool→Option C)(g:iL C):iL C:=λl f p id i=>cond (i<f) (cl m aJ (Bj p id 2) (λr1=>cond (r1.2.2.2.1=l) (K true) (cond (r1.2.2.2.1=0) (K false) (fz m tInt (w64 (i+1)) (λj=>g l f p r1.2.2.2.1 j))))) (K false)
def sr (m:Bool)(K:Bool→Option C)(g:iL C)(l:aO.den)(id:Int)(j:Int)(f:Int):Option C:=g j f l id 0
def lh:Nat→iL Bool:=lp (λ_ _ _ _ _=>none) λf=>j8 false some f
def gS (j:aO.den)(id:Int)(g:Int)(f:Int):Option Bool:=sr false some (lh FU) j id g f
def F6:Ent:=evE (.cons aO (.cons tInt (.cons tInt (.cons tInt .unit)))) ac (zero .bool) λx=>gS x.1 x.2.1 x.2.2.1 x.2.2.2.1
def z8:MS:=⟨1,[(0,[.dat (.slice aa)])],[(1,.dat tInt),(2,.dat tInt),(3,.dat tInt),(4,.keep),(9,.dat tInt)]⟩
def F7:Par:=⟨bB.tab,az [(233,ab2)],λ_=>look [],λ_=>look [(2,z8)]⟩
def S7:KT:=bg bB.tab [.tmp 8] [.bool]
def F8:=h13 F7 f185
def lg (f n:Nat):iL AV:=λj g l id i=>aE 0 z8 (F8 f 0 [1,0,1,0,0]) (aj 0 (aL 0 none (F8 f 0 [1,1]) S7)) n ⟨mkE 24 [(1,.val tInt id),(2,.val tInt j),(3,.val tInt g),(4,.box 0 0),(9,.val tInt i)],mkH 1 [(0,.box [.val (.slice aa) l.1])]⟩
def L8 (f g:Nat):lg f (g+1)=j8 true (sm ac) (lg f g):=Φ
def L9:∀n,lg FU n=mp5 ac (lh n):=bo Φ λf _ h=>(L8 FU f).trans (by rw[h];funext _ _ _ _ _;simp only[j8,ss])
def S6:ar prog 185 (F6):=evX func185 (S:=F7) aA (ag ⟨ahN,aoG⟩) (tys:=[.bool]) (λf x=>sr true (sm ac) (lg f f) x.1 x.2.1 x.2.2.1 x.2.2.2.1) (λx=>by show _=Option.map ac _;rw[L9 FU];simp only[sr,gS,ss])
abbrev ig (C:Type):=Int→(List Int)→aO.den→(List Int)→Int→Option C
abbrev RI (C:Type):=Int→(List Int)→Int→aO.den→(List Int)→Option C
def nU (m:Bool)(K:(List Int)→Option C)(f:ig C):RI C:=λid l i j out=>fz m tInt (w64 (i+1)) λg=>f id l j out g
def JR (l:aO.den)(j:Int)(g:Int)(f:Int):Bool:=(gS l j g f).isSome
def X0 (l:aO.den)(j:Int)(g:Int)(f:Int):Bool:=(gS l j g f).getD (zero .bool)
def nT (m:Bool)(K:(List Int)→Option C)(g:ig C):ig C:=λid f j out i=>let d:=ix tInt f i;let c:=w64 (il f+1);let b:=bd i f.length;let a:Bool:=!ix tInt f i=id;cond (i<il f) (ck b (nm m 2 a b (nq m [2,2,2] a (ck (ii a&&(ii a&&(ii a&&(ii a&&true)))&&aS a (JR j d id c)) (nq m [1] a (cond (cond a (X0 j d id c) false) (ck b (ck (lm (List.length out+List.length ([ix tInt f i]:List Int))) (fz m (.slice tInt) (out++[ix tInt f i]) (λl=>nU m K g id f i j l)))) (nU m K g id f i j out))))))) (K out)
def xl (m:Bool)(K:(List Int)→Option C)(f:ig C)(g:aO.den)(id:Int):Option C:=cl m .bool (qp g) λr1=>nm m 1 (!!r1) (qd id) (nq m [2,0] (!!r1) (cond (cond (!r1) true (!gP id)) (K []) (cl m (.slice tInt) (u7 g) (λj=>f id j g [] 0))))
def pp:Nat→ig (List Int):=lp (λ_ _ _ _ _=>none) λf=>nT false some f
def nV (f:aO.den)(id:Int):Option (List Int):=xl false some (pp FU) f id
def K6:Ent:=evE (.cons aO (.cons tInt .unit)) aq (zero (.slice tInt)) λx=>nV x.1 x.2.1
def vD:MS:=⟨1,[(0,[.dat (.slice aa)])],[(1,.dat tInt),(2,.keep),(5,.own tInt 3),(6,.dat (.slice tInt)),(7,.dat tInt)]⟩
def K7:Par:=⟨bB.tab,az [(183,OA),(146,eL),(184,Wh),(185,F6)],λ_=>look [(7,vD)],λ_=>look [(6,vD)]⟩
def xn:KT:=bg bB.tab [.tmp 4] [(.slice tInt)]
def K8:=h13 K7 f143
def pn (f n:Nat):ig AV:=λid j g out i=>aE 0 vD (K8 f 0 [1,1,1,1,0,1,0,0]) (aj 0 (aL 0 none (K8 f 0 [1,1,1,1,1]) xn)) n ⟨mkE 50 [(1,.val tInt id),(2,.box 0 0),(5,.own 1 0 tInt out),(6,.val (.slice tInt) j),(7,.val tInt i)],mkH 2 [(0,.box [.val (.slice aa) g.1]),(1,.row tInt 3 0)]⟩
def RJ (f g:Nat):pn f (g+1)=nT true (sm aq) (pn f g):=Φ
def RK:∀n,pn FU n=mp5 aq (pp n):=bo Φ λf _ h=>(RJ FU f).trans (by rw[h];funext _ _ _ _ _;simp only[nT,nU,ss])
def Zx:ar prog 143 (K6):=evX func143 (S:=K7) aA (ag ⟨aaw,gz,aff,S6,aoG⟩) (tys:=[(.slice tInt)]) (λf x=>xl true (sm aq) (pn f f) x.1 x.2.1) (λx=>by show _=Option.map aq _;rw[RK FU];simp only[xl,nV,nU,ss])
abbrev gg (C:Type):=(List Int)→Int→Int→Option C
def Bf (m:Bool)(K:Bool→Option C)(f:gg C):gg C:=λl x i=>cond (i<il l) (ck (bd i l.length) (cond (ix tInt l i=x) (K true) (fz m tInt (w64 (i+1)) (λg=>f l x g)))) (K false)
def MV (m:Bool)(K:Bool→Option C)(f:gg C)(l:(List Int))(x:Int):Option C:=f l x 0
def Be:Nat→gg Bool:=lp (λ_ _ _=>none) λf=>Bf false some f
def lw (l:(List Int))(x:Int):Option Bool:=MV false some (Be FU) l x
def pO:Ent:=evE (.cons (.slice tInt) (.cons tInt .unit)) ac (zero .bool) λx=>lw x.1 x.2.1
def Hu:MS:=⟨0,[],[(0,.dat (.slice tInt)),(1,.dat tInt),(5,.dat tInt)]⟩
def MW:Par:=⟨bB.tab,az [],λ_=>look [],λ_=>look [(2,Hu)]⟩
def ahL:KT:=bg bB.tab [.tmp 4] [.bool]
def abZ:=h13 MW f17
def Bc (f n:Nat):gg AV:=λl x i=>aE 0 Hu (abZ f 0 [1,0,1,0,0]) (aj 0 (aL 0 none (abZ f 0 [1,1]) ahL)) n ⟨mkE 18 [(0,.val (.slice tInt) l),(1,.val tInt x),(5,.val tInt i)],mkH 0 []⟩
def abX (f g:Nat):Bc f (g+1)=Bf true (sm ac) (Bc f g):=Φ
def abY:∀n,Bc FU n=mp3 ac (Be n):=bo Φ λf _ h=>(abX FU f).trans (by rw[h];funext _ _ _;simp only[Bf,ss])
def sY:ar prog 17 (pO):=evX func17 (S:=MW) aA (ag trivial) (tys:=[.bool]) (λf x=>MV true (sm ac) (Bc f f) x.1 x.2.1) (λx=>by show _=Option.map ac _;rw[abY FU];simp only[MV,lw,ss])
def Ae (m:Bool)(K:(List Int)→Option C)(g:gg C):gg C:=λl x f=>let d:=Int.toNat f;let c:=List.take (List.length l) l;let b:=w64 (f-1);let e:=bd b l.length;let a:=List.take d l;nq m [2] (f>0) (nm m 2 (f>0) e (nq m [2,3,1] (f>0) (cond (cond (f>0) (ix tInt l b≥x) false) (ck e (cond (ix tInt l b=x) (K l) (fz m tInt b (λj=>g l x j)))) (ck (0≤f&&f≤(l.length:Int)) (ck (lm (List.length ([]:List Int)+List.length (a.drop 0))) (ck (lm (List.length ([]++a.drop 0)+List.length ([x]:List Int))) (ck (0≤f&&f≤(l.length:Int)) (ck (lm (List.length ([]++a.drop 0++[x])+List.length (c.drop d))) (K ([]++a.drop 0++[x]++c.drop d))))))))))
def Ma (m:Bool)(K:(List Int)→Option C)(f:gg C)(l:(List Int))(x:Int):Option C:=fz m tInt (il l) λg=>f l x g
def Ad:Nat→gg (List Int):=lp (λ_ _ _=>none) λf=>Ae false some f
def gq (l:(List Int))(x:Int):Option (List Int):=Ma false some (Ad FU) l x
def yB:Ent:=evE (.cons (.slice tInt) (.cons tInt .unit)) aq (zero (.slice tInt)) λx=>gq x.1 x.2.1
def aaV:=h13 MW f19
def Ac (f n:Nat):gg AV:=λl x g=>aE 0 Hu (aaV f 0 [1,1,0,0,0]) (aj 0 (aL 0 none (aaV f 0 [1,1,1]) xn)) n ⟨mkE 44 [(0,.val (.slice tInt) l),(1,.val tInt x),(5,.val tInt g)],mkH 0 []⟩
def aaT (f g:Nat):Ac f (g+1)=Ae true (sm aq) (Ac f g):=Φ
def aaU:∀n,Ac FU n=mp3 aq (Ad n):=bo Φ λf _ h=>(aaT FU f).trans (by rw[h];funext _ _ _;simp only[Ae,ss])
def Cq:ar prog 19 (yB):=evX func19 (S:=MW) aA (ag trivial) (tys:=[(.slice tInt)]) (λf x=>Ma true (sm aq) (Ac f f) x.1 x.2.1) (λx=>by show _=Option.map aq _;rw[aaU FU];simp only[Ma,gq,ss])
abbrev nr (C:Type):=(List Int)→Int→Option C
def rh (m:Bool)(K:Bool→Option C)(f:nr C):nr C:=λl i=>let d:=w64 (i-1);let b:=bd i l.length;cond (i<il l) (ck b (cl m .bool (bW (ix tInt l i)) (λr1=>let c:Bool:=!!r1;let a:Bool:=!!r1&&i>0;nq m [2,2] c (nm m 2 a b (nq m [2,2] a (nm m 2 a (bd d l.length) (nq m [2,3] a (nm m 0 c (ii a&&true) (nq m [0] c (cond (cond (!r1) true (cond (i>0) (ix tInt l i≤ix tInt l d) false)) (K false) (fz m tInt (w64 (i+1)) (λg=>f l g)))))))))))) (K true)
def AX (m:Bool)(K:Bool→Option C)(f:nr C)(l:(List Int)):Option C:=f l 0
def sT:Nat→nr Bool:=lp (λ_ _=>none) λf=>rh false some f
def lU (l:(List Int)):Option Bool:=AX false some (sT FU) l
def Qu:Ent:=evE (.cons (.slice tInt) .unit) ac (zero .bool) λx=>lU x.1
def Ho:MS:=⟨0,[],[(0,.dat (.slice tInt)),(3,.dat tInt)]⟩
def Qv:Par:=⟨bB.tab,az [(146,eL)],λ_=>look [],λ_=>look [(2,Ho)]⟩
def Qw:=h13 Qv f147
def sS (f n:Nat):nr AV:=λl i=>aE 0 Ho (Qw f 0 [1,0,1,0,0]) (aj 0 (aL 0 none (Qw f 0 [1,1]) i9)) n ⟨mkE 32 [(0,.val (.slice tInt) l),(3,.val tInt i)],mkH 0 []⟩
def T9 (f g:Nat):sS f (g+1)=rh true (sm ac) (sS f g):=Φ
def Ua:∀n,sS FU n=mp2 ac (sT n):=bo Φ λf _ h=>(T9 FU f).trans (by rw[h];funext _ _;simp only[rh,ss])
def abS:ar prog 147 (Qu):=evX func147 (S:=Qv) aA (ag ⟨gz,aoG⟩) (tys:=[.bool]) (λf x=>AX true (sm ac) (sS f f) x.1) (λx=>by show _=Option.map ac _;rw[Ua FU];simp only[AX,lU,ss])
abbrev j9 (C:Type):=tCommit.den→Int→Option C
def mO (m:Bool)(K:Bool→Option C)(f:j9 C):j9 C:=λc i=>let b:=bd i c.2.2.2.1.length;let a:Bool:=!ixs c.2.2.2.1 i<32;cond (i<il c.2.2.2.1) (ck b (nq m [2] a (nm m 2 a b (nq m [2,0] a (cond (cond (ixs c.2.2.2.1 i<32) true (ixs c.2.2.2.1 i>126)) (K false) (fz m tInt (w64 (i+1)) (λg=>f c g))))))) (K true)
def Wk (f:(List Int)):Bool:=(lU f).isSome
def bG (f:(List Int)):Bool:=(lU f).getD (zero .bool)
def tM (g:(List Int))(f:Int):Bool:=(lw g f).isSome
def hO (g:(List Int))(f:Int):Bool:=(lw g f).getD (zero .bool)
def wy (m:Bool)(K:Bool→Option C)(p:j9 C)(c:tCommit.den):Option C:=let o:Bool:=il c.2.1>4;let n:Bool:=!bG c.2.2.1;let l:=hO c.2.1 c.1;let j:=hO c.2.2.1 c.1;let d:Bool:=il c.2.2.1>4;cl m .bool (bW c.1) λr1=>let f:=cond (!r1) true (!bG c.2.1);let i:=cond f true n;let e:Bool:=!cond (!r1) true (!bG c.2.1);let a:=cond i true o;let k:=cond a true d;let h:Bool:=!cond a true d;let g:=cond k true l;let b:Bool:=!cond k true l;nq m [2] (!!r1) (nm m 1 (!!r1) (Wk c.2.1) (nq m [2,0] (!!r1) (nq m [2] e (nm m 1 e (Wk c.2.2.1) (nq m [2,0] e (nq m [2,2,2,0] (!cond f true n) (nq m [2,2,2,0] (!cond i true o) (nq m [2,2] h (nm m 2 h (tM c.2.1 c.1) (nq m [0] h (nq m [2,2] b (nm m 2 b (tM c.2.2.1 c.1) (nq m [0] b (nq m [2,2,2,0] (!cond g true j) (cond (cond (cond g true j) true (il c.2.2.2.1>80)) (K false) (p c 0))))))))))))))))
def oW:Nat→j9 Bool:=lp (λ_ _=>none) λf=>mO false some f
def mP (c:tCommit.den):Option Bool:=wy false some (oW FU) c
def JV:Ent:=evE (.cons tCommit .unit) ac (zero .bool) λx=>mP x.1
def DD:MS:=⟨1,[(0,[.dat tInt,.dat (.slice tInt),.dat (.slice tInt),.dat .str,.dat (.slice aa)])],[(1,.keep),(3,.dat tInt)]⟩
def JW:Par:=⟨bB.tab,az [(146,eL),(147,Qu),(17,pO)],λ_=>look [],λ_=>look [(4,DD)]⟩
def JX:=h13 JW f104
def oV (f n:Nat):j9 AV:=λc i=>aE 0 DD (JX f 0 [1,1,0,1,0,0]) (aj 0 (aL 0 none (JX f 0 [1,1,1]) i9)) n ⟨mkE 71 [(1,.box 0 0),(3,.val tInt i)],mkH 1 [(0,.box [.val tInt c.1,.val (.slice tInt) c.2.1,.val (.slice tInt) c.2.2.1,.val .str c.2.2.2.1,.val (.slice aa) c.2.2.2.2.1])]⟩
def Pi (f g:Nat):oV f (g+1)=mO true (sm ac) (oV f g):=Φ
def Pj:∀n,oV FU n=mp2 ac (oW n):=bo Φ λf _ h=>(Pi FU f).trans (by rw[h];funext _ _;simp only[mO,ss])
def X3:ar prog 104 (JV):=evX func104 (S:=JW) aA (ag ⟨gz,abS,sY,aoG⟩) (tys:=[.bool]) (λf x=>wy true (sm ac) (oV f f) x.1) (λx=>by show _=Option.map ac _;rw[Pj FU];simp only[wy,mP,ss])
abbrev l9:=(Ty.den (.cons aJ (.cons .bool .unit)))
abbrev ip (C:Type):=Υ→Int→Int→Int→Option C
def eI (m:Bool)(K:l9→Option C)(f:ip C):ip C:=λw id field i=>let b:=bd i w.length;let a:=ix aa w i;cond (i≥0) (ck b (nm m 2 (a.1=id) b (nq m [2,2,3,1] (a.1=id) (cond (cond (a.1=id) (a.2.1=field) false) (ck b (K (a.2.2.1,true,()))) (fz m tInt (w64 (i-1)) (λg=>f w id field g)))))) (K ((0,false,[],0,()),false,()))
def l7 (m:Bool)(K:l9→Option C)(f:ip C)(w:Υ)(id:Int)(field:Int):Option C:=fz m tInt (w64 (il w-1)) λg=>f w id field g
def fp:Nat→ip l9:=lp (λ_ _ _ _=>none) λf=>eI false some f
def bL (w:Υ)(id:Int)(field:Int):Option l9:=l7 false some (fp FU) w id field
def l8 (r:l9):AV :=.tup (cm [.val aJ r.1,.val .bool r.2.1])
def i6:Ent:=evE (.cons (.slice aa) (.cons tInt (.cons tInt .unit))) l8 (zero (.cons aJ (.cons .bool .unit))) λx=>bL x.1 x.2.1 x.2.2.1
def zg:MS:=⟨1,[(0,[.dat tInt,.dat .bool,.dat .str,.dat tInt])],[(0,.dat (.slice aa)),(1,.dat tInt),(2,.dat tInt),(6,.keep),(8,.dat tInt)]⟩
def EZ:Par:=⟨bB.tab,az [],λ_=>look [],λ_=>look [(2,zg)]⟩
def RV:KT:=bg bB.tab [.cell 6 42,.tmp 7] [aJ,.bool]
def E0:=h13 EZ f64
def kT (f n:Nat):ip AV:=λw id field i=>aE 0 zg (E0 f 0 [1,0,1,0,0]) (aj 0 (aL 0 none (E0 f 0 [1,1]) RV)) n ⟨mkE 38 [(0,.val (.slice aa) w),(1,.val tInt id),(2,.val tInt field),(6,.box 0 0),(8,.val tInt i)],mkH 1 [(0,.box [.val tInt (0:Int),.val .bool false,.val .str [],.val tInt (0:Int)])]⟩
def Le (f g:Nat):kT f (g+1)=eI true (sm l8) (kT f g):=Φ
def Lg:∀n,kT FU n=mp4 l8 (fp n):=bo Φ λf _ h=>(Le FU f).trans (by rw[h];funext _ _ _ _;simp only[eI,ss])
def l6:ar prog 64 (i6):=evX func64 (S:=EZ) aA (ag trivial) (tys:=[aJ,.bool]) (λf x=>l7 true (sm l8) (kT f f) x.1 x.2.1 x.2.2.1) (λx=>by show _=Option.map l8 _;rw[Lg FU];simp only[l7,bL,ss])
def EF (m:Bool)(K:Int→Option C)(s:ai.den)(id:Int):Option C:=ce m (.slice eO) (b9 s id 1) (iV s id 1) λr1=>cond (il r1=0) (K 0) (ck (bd 0 r1.length) (K (ix eO r1 0).2.1.1))
def gc (s:ai.den)(id:Int):Option Int:=EF false some s id
def AM:Ent:=evE (.cons ai (.cons tInt .unit)) ax (zero tInt) λx=>gc x.1 x.2.1
def VY:Par:=⟨bB.tab,az [(141,ET)],λ_=>look [],λ_=>look []⟩
def EE:ar prog 95 (AM):=evX func95 (S:=VY) aA (ag ⟨Nt,aoG⟩) (tys:=[tInt]) (λf x=>EF true (sm ax) x.1 x.2.1) (λx=>by show _=Option.map ax _;simp only[EF,gc,ss])
def wN (m:Bool)(K:Int→Option C)(s:ai.den)(w:Υ)(id:Int):Option C:=cl m tInt (gc s id) λr1=>cond (!r1=0) (K r1) (cl m (.cons aJ (.cons .bool .unit)) (bL w id 1) (λf=>K f.1.1))
def mZ (s:ai.den)(w:Υ)(id:Int):Option Int:=wN false some s w id
def Ki:Ent:=evE (.cons ai (.cons (.slice aa) (.cons tInt .unit))) ax (zero tInt) λx=>mZ x.1 x.2.1 x.2.2.1
def YG:Par:=⟨bB.tab,az [(95,AM),(64,i6)],λ_=>look [],λ_=>look []⟩
def YF:ar prog 149 (Ki):=evX func149 (S:=YG) aA (ag ⟨EE,l6,aoG⟩) (tys:=[tInt]) (λf x=>wN true (sm ax) x.1 x.2.1 x.2.2.1) (λx=>by show _=Option.map ax _;simp only[wN,mZ,ss])
def nh (m:Bool)(K:Bool→Option C)(f:Int):Option C:=let b:Bool:=!cond (f≥1) (f≤4) false&&f≥8;let a:Bool:=!cond (f≥1) (f≤4) false;nq m [2,1] (f≥1) (nq m [2,2] a (nq m [2] b (nm m 0 a (ii b&&true) (nq m [0] a (K (cond (cond (f≥1) (f≤4) false) true (cond (f≥8) (decide (f<48)) false)))))))
def fa (f:Int):Option Bool:=nh false some f
def Hl:Ent:=evE (.cons tInt .unit) ac (zero .bool) λx=>fa x.1
def T5:ar prog 148 (Hl):=evX func148 (S:=rR) aA (ag trivial) (tys:=[.bool]) (λf x=>nh true (sm ac) x.1) (λx=>by show _=Option.map ac _;simp only[nh,fa,ss])
def zD (m:Bool)(K:Bool→Option C)(f:Int)(field:Int)(v:aJ.den):Option C:=let a:Bool:=!decide (field=3);(cl m .bool (jo f field v) λr1=>(nq m [3,2] r1 (nq m [2,2] (r1&&(!(!eqD aJ v (0,false,[],0,())))) (nq m [2] ((r1&&(!(!eqD aJ v (0,false,[],0,()))))&&a) (nm m 0 (r1&&(!(!eqD aJ v (0,false,[],0,())))) ((ii ((r1&&(!(!eqD aJ v (0,false,[],0,()))))&&a))&&true) (nm m 0 r1 (ii (r1&&(!(!eqD aJ v (0,false,[],0,()))))) (nq m [1] r1 (K (bif r1 then(bif (!eqD aJ v (0,false,[],0,()))then true else(bif a then(!decide (field=4))else false))else false)))))))))
def qj (f:Int)(field:Int)(v:aJ.den):Option Bool:=zD false some f field v
def Ow:Ent:=evE (.cons tInt (.cons tInt (.cons aJ .unit))) ac (zero .bool) λx=>qj x.1 x.2.1 x.2.2.1
def aap:Par:=⟨bB.tab,az [(186,CN)],λ_=>look [],λ_=>look []⟩
def aao:ar prog 150 (Ow):=evX func150 (S:=aap) aA (ag ⟨KC,aoG⟩) (tys:=[.bool]) (λf x=>zD true (sm ac) x.1 x.2.1 x.2.2.1) (λx=>by show _=Option.map ac _;simp only[zD,qj,ss])
abbrev jI (C:Type):=tCommit.den→aa.den→Int→Option C
def ly (m:Bool)(K:Int→Option C)(f:aG C):jI C:=λc x g=>cl m (.cons aJ (.cons .bool .unit)) (bL c.2.2.2.2.1 x.1 g) λj=>cond (!j.2.1) (K 16) f
def lx (m:Bool)(K:Int→Option C):aG C:=(K 0)
def YP (f:Int):Bool:=(fa f).isSome
def wS (f:Int):Bool:=(fa f).getD (zero .bool)
def tc (m:Bool)(K:Int→Option C)(f:jI C)(g:aG C)(s:ai.den)(c:tCommit.den)(x:aa.den):Option C:=let a:=cond (x.2.2.1.1<1) true (x.2.2.1.1>5);cl m .bool (bW x.1) λr1=>let b:Bool:=!cond (!r1) true (x.1=c.1);nq m [2,2,3,0] (!!r1) (nq m [2] b (nm m 1 b (YP x.2.1) (nq m [2,0] b (cond (cond (cond (!r1) true (x.1=c.1)) true (!wS x.2.1)) (K 5) (cl m tInt (gc s x.1) (λj=>cond (x.2.1=1) (nq m [2,2,2,0] (!x.2.2.1.1<1) (nq m [2,2,2,2,3,0] (!cond (x.2.2.1.1<1) true (x.2.2.1.1>5)) (nq m [2,2] (!cond a true (!eqD aJ x.2.2.1 (x.2.2.1.1,false,[],0,()))) (nq m [2,2,3] (!cond a true (!eqD aJ x.2.2.1 (x.2.2.1.1,false,[],0,()))&&!j=0) (nm m 0 (!cond a true (!eqD aJ x.2.2.1 (x.2.2.1.1,false,[],0,()))) (ii (!cond a true (!eqD aJ x.2.2.1 (x.2.2.1.1,false,[],0,()))&&!j=0)&&true) (nq m [0] (!cond a true (!eqD aJ x.2.2.1 (x.2.2.1.1,false,[],0,()))) (cond (cond (cond a true (!eqD aJ x.2.2.1 (x.2.2.1.1,false,[],0,()))) true (cond (!j=0) (!j=x.2.2.1.1) false)) (K 10) (cond (j=0) (cond (x.2.2.1.1=5) (f c x 4) (f c x 3)) g)))))))) (cl m tInt (mZ s c.2.2.2.2.1 x.1) (λl=>cond (l=0) (K 7) (cl m .bool (qj l x.2.1 x.2.2.1) (λp=>cond (!p) (K 13) (K 0)))))))))))
def gh:aG Int:=lx false some
def jK:jI Int:=ly false some gh
def kA (s:ai.den)(c:tCommit.den)(x:aa.den):Option Int:=tc false some jK gh s c x
def Hx:Ent:=evE (.cons ai (.cons tCommit (.cons aa .unit))) ax (zero tInt) λx=>kA x.1 x.2.1 x.2.2.1
def IN:MS:=⟨3,[(0,[.drop]),(1,[.dat tInt,.dat (.slice tInt),.dat (.slice tInt),.dat .str,.dat (.slice aa)]),(2,[.dat tInt,.dat tInt,.dat tInt,.dat .bool,.dat .str,.dat tInt])],[(4,.keep),(5,.keep),(8,.dat tInt)]⟩
def Hy:Par:=⟨bB.tab,az [(146,eL),(148,Hl),(95,AM),(149,Ki),(150,Ow),(64,i6)],λ_=>look [(11,IN),(14,bY)],λ_=>look []⟩
def Hz:KT:=bg bB.tab [.tmp 6] [tInt]
def nB:=h13 Hy f106
def pQ (f:Nat):jI AV:=λc x g=>nB f 0 [1,1,1,0,1,0,1,0,1,0,1,1] ⟨mkE 98 [(4,.box 1 0),(5,.box 2 0),(8,.val tInt g)],mkH 3 [(0,.box [.unk]),(1,.box [.val tInt c.1,.val (.slice tInt) c.2.1,.val (.slice tInt) c.2.2.1,.val .str c.2.2.2.1,.val (.slice aa) c.2.2.2.2.1]),(2,.box [.val tInt x.1,.val tInt x.2.1,.val tInt x.2.2.1.1,.val .bool x.2.2.1.2.1,.val .str x.2.2.1.2.2.1,.val tInt x.2.2.1.2.2.2.1])]⟩ (aL 0 (some bY) (nB f 0 [1,1,1,0,1,0,1,1]) (aL 0 none (nB f 0 [1,1,1,1]) Hz))
def jJ (f:Nat):aG AV:=nB f 0 [1,1,1,0,1,0,1,1] ⟨mkE 98 [],mkH 0 []⟩ (aL 0 none (nB f 0 [1,1,1,1]) Hz)
def IQ (f:Nat):pQ f=ly true (sm ax) (jJ f):=Φ
def IP (f:Nat):jJ f=lx true (sm ax):=Φ
def yc:jJ FU=mp0 ax (gh):=(IP FU).trans (by simp only[lx,gh,ss])
def IR:pQ FU=mp3 ax (jK):=(IQ FU).trans (by rw[yc];funext _ _ _;simp only[ly,jK,ss])
def Ul:ar prog 106 (Hx):=evX func106 (S:=Hy) aA (ag ⟨gz,T5,EE,YF,aao,l6,aoG⟩) (tys:=[tInt]) (λf x=>tc true (sm ax) (pQ f) (jJ f) x.1 x.2.1 x.2.2.1) (λx=>by show _=Option.map ax _;rw[IR,yc];simp only[tc,kA,ss])
def eV (m:Bool)(K:Bool→Option C)(f:bj C):bj C:=λl i=>let e:=ix aa l i;let c:=bd i l.length;let a:=w64 (i-1);let d:=ix aa l a;let b:=bd a l.length;cond (i<il l) (ck b (ck b (ck c (ck c (ce m .bool true (vI d.1 d.2.1 e.1 e.2.1) (λr1=>cond (!r1) (K false) (fz m tInt (w64 (i+1)) (λg=>f l g)))))))) (K true)
def sy (m:Bool)(K:Bool→Option C)(f:bj C)(l:Υ):Option C:=f l 1
def iN:Nat→bj Bool:=lp (λ_ _=>none) λf=>eV false some f
def kg (l:Υ):Option Bool:=sy false some (iN FU) l
def Gs:Ent:=evE (.cons (.slice aa) .unit) ac (zero .bool) λx=>kg x.1
def Gu:Par:=⟨bB.tab,az [(145,xt)],λ_=>look [],λ_=>look [(2,gN)]⟩
def Gv:=h13 Gu f105
def lj (f n:Nat):bj AV:=λl i=>aE 0 gN (Gv f 0 [1,0,1,0,0]) (aj 0 (aL 0 none (Gv f 0 [1,1]) i9)) n ⟨mkE 34 [(0,.val (.slice aa) l),(3,.val tInt i)],mkH 0 []⟩
def Mk (f g:Nat):lj f (g+1)=eV true (sm ac) (lj f g):=Φ
def Ml:∀n,lj FU n=mp2 ac (iN n):=bo Φ λf _ h=>(Mk FU f).trans (by rw[h];funext _ _;simp only[eV,ss])
def Th:ar prog 105 (Gs):=evX func105 (S:=Gu) aA (ag ⟨Nz,aoG⟩) (tys:=[.bool]) (λf x=>sy true (sm ac) (lj f f) x.1) (λx=>by show _=Option.map ac _;rw[Ml FU];simp only[sy,kg,ss])
abbrev kB (C:Type):=ai.den→tCommit.den→Int→Option C
def nC (m:Bool)(K:Int→Option C)(f:kB C):kB C:=λs c i=>cond (i<il c.2.2.2.2.1) (ck (bd i c.2.2.2.2.1.length) (cl m tInt (kA s c (ix aa c.2.2.2.2.1 i)) (λj=>cond (!j=0) (K j) (fz m tInt (w64 (i+1)) (λg=>f s c g))))) (K 0)
def wZ (m:Bool)(K:Int→Option C)(f:kB C)(s:ai.den)(c:tCommit.den):Option C:=cl m .bool (mP c) λr1=>cond (!r1) (K 5) (cl m .bool (kg c.2.2.2.2.1) (λg=>cond (!g) (K 12) (f s c 0)))
def pj:Nat→kB Int:=lp (λ_ _ _=>none) λf=>nC false some f
def nD (s:ai.den)(c:tCommit.den):Option Int:=wZ false some (pj FU) s c
def Kz:Ent:=evE (.cons ai (.cons tCommit .unit)) ax (zero tInt) λx=>nD x.1 x.2.1
def DP:MS:=⟨2,[(0,[.dat (.slice ah)]),(1,[.dat tInt,.dat (.slice tInt),.dat (.slice tInt),.dat .str,.dat (.slice aa)])],[(2,.keep),(3,.keep),(5,.dat tInt)]⟩
def KA:Par:=⟨bB.tab,az [(104,JV),(105,Gs),(106,Hx)],λ_=>look [],λ_=>look [(6,DP)]⟩
def CM:KT:=bg bB.tab [.tmp 4] [tInt]
def KB:=h13 KA f56
def ph (f n:Nat):kB AV:=λs c i=>aE 0 DP (KB f 0 [1,1,1,0,1,0,0]) (aj 0 (aL 0 none (KB f 0 [1,1,1,1]) CM)) n ⟨mkE 32 [(2,.box 0 0),(3,.box 1 0),(5,.val tInt i)],mkH 2 [(0,.box [.val (.slice ah) s.1]),(1,.box [.val tInt c.1,.val (.slice tInt) c.2.1,.val (.slice tInt) c.2.2.1,.val .str c.2.2.2.1,.val (.slice aa) c.2.2.2.2.1])]⟩
def QH (f g:Nat):ph f (g+1)=nC true (sm ax) (ph f g):=Φ
def QI:∀n,ph FU n=mp3 ax (pj n):=bo Φ λf _ h=>(QH FU f).trans (by rw[h];funext _ _ _;simp only[nC,ss])
def Y4:ar prog 56 (Kz):=evX func56 (S:=KA) aA (ag ⟨X3,Th,Ul,aoG⟩) (tys:=[tInt]) (λf x=>wZ true (sm ax) (ph f f) x.1 x.2.1) (λx=>by show _=Option.map ax _;rw[QI FU];simp only[wZ,nD,ss])
abbrev iT:=(Ty.den (.cons tCommit (.cons .bool .unit)))
abbrev cY (C:Type):=Λ→Int→Int→Option C
def rm (m:Bool)(K:iT→Option C)(g:cY C):cY C:=λl f i=>let a:=bd i l.length;cond (i<il l) (ck a (cond ((ix tCommit l i).1=f) (ck a (K (ix tCommit l i,true,()))) (fz m tInt (w64 (i+1)) (λj=>g l f j)))) (K ((0,[],[],[],[],()),false,()))
def Bo (m:Bool)(K:iT→Option C)(g:cY C)(l:Λ)(f:Int):Option C:=g l f 0
def tg:Nat→cY iT:=lp (λ_ _ _=>none) λf=>rm false some f
def jp (l:Λ)(f:Int):Option iT:=Bo false some (tg FU) l f
def kD (r:iT):AV :=.tup (cm [.val tCommit r.1,.val .bool r.2.1])
def Bp:Ent:=evE (.cons (.slice tCommit) (.cons tInt .unit)) kD (zero (.cons tCommit (.cons .bool .unit))) λx=>jp x.1 x.2.1
def HD:MS:=⟨1,[(0,[.dat tInt,.own tInt 3,.own tInt 3,.dat .str,.own aa 44])],[(0,.dat (.slice tCommit)),(1,.dat tInt),(4,.keep),(6,.dat tInt)]⟩
def QM:Par:=⟨bB.tab,az [],λ_=>look [],λ_=>look [(2,HD)]⟩
def aci:KT:=bg bB.tab [.cell 4 38,.tmp 5] [tCommit,.bool]
def QN:=h13 QM f45
def tf (f n:Nat):cY AV:=λl g i=>aE 0 HD (QN f 0 [1,0,1,0,0]) (aj 0 (aL 0 none (QN f 0 [1,1]) aci)) n ⟨mkE 25 [(0,.val (.slice tCommit) l),(1,.val tInt g),(4,.box 0 0),(6,.val tInt i)],mkH 4 [(0,.box [.val tInt (0:Int),.own 1 0 tInt [],.own 2 0 tInt [],.val .str [],.own 3 0 aa []]),(1,.row tInt 3 0),(2,.row tInt 3 0),(3,.row aa 44 0)]⟩
def Uo (f g:Nat):tf f (g+1)=rm true (sm kD) (tf f g):=Φ
def Up:∀n,tf FU n=mp3 kD (tg n):=bo Φ λf _ h=>(Uo FU f).trans (by rw[h];funext _ _ _;simp only[rm,ss])
def HC:ar prog 45 (Bp):=evX func45 (S:=QM) aA (ag trivial) (tys:=[tCommit,.bool]) (λf x=>Bo true (sm kD) (tf f f) x.1 x.2.1) (λx=>by show _=Option.map kD _;rw[Up FU];simp only[Bo,jp,ss])
abbrev vE (C:Type):=Λ→(List Int)→Nat→(List Int)→Option C
def BY (m:Bool)(K:(List Int)→Option C)(j:vE C):vE C:=λl out f g=>let b:=ni f-1;let c:=w64 b;let a:=List.getD g (0+Int.toNat c) (zero tInt);cond (ni f>0) (ck (0≤w64 b&&w64 b<ni f) (ck (0≤w64 b&&w64 b≤ni f) (cl m (.cons tCommit (.cons .bool .unit)) (jp l a) (λr1=>nm m 2 (!!r1.2.1) (tM out a) (nq m [0] (!!r1.2.1) (cond (cond (!r1.2.1) true (hO out a)) (fm m (0+Int.toNat c) (λp=>j l out p g)) (cl m (.slice tInt) (gq out a) (λJ=>ck (lm (0+Int.toNat c+List.length r1.1.2.1)) (fm m (0+Int.toNat c+List.length r1.1.2.1) (λp=>fz m (.slice tInt) (List.take (0+Int.toNat c) g++r1.1.2.1) λr=>j l J p r)))))))))) (K out)
def Nr (m:Bool)(K:(List Int)→Option C)(g:vE C)(l:Λ)(f:(List Int)):Option C:=ck (lm (0+List.length f)) (fm m (0+List.length f) (λp=>fz m (.slice tInt) (List.take 0 []++f) λj=>g l [] p j))
def BX:Nat→vE (List Int):=lp (λ_ _ _ _=>none) λf=>BY false some f
def px (l:Λ)(f:(List Int)):Option (List Int):=Nr false some (BX FU) l f
def Ns:Ent:=evE (.cons (.slice tCommit) (.cons (.slice tInt) .unit)) aq (zero (.slice tInt)) λx=>px x.1 x.2.1
def RN:MS:=⟨0,[],[(0,.dat (.slice tCommit)),(5,.dat (.slice tInt)),(6,.mut tInt 3)]⟩
def adG:Par:=⟨Ou.tab,az [(45,Bp),(17,pO),(19,yB)],λ_=>look [],λ_=>look [(3,RN)]⟩
def aip:KT:=bg Ou.tab [.tmp 4] [(.slice tInt)]
def adH:=h13 adG f93
def BW (g n:Nat):vE AV:=λl out f j=>aE 0 RN (adH g 0 [1,1,1,0,0,0]) (aj 0 (aL 0 none (adH g 0 [1,1,1,1]) aip)) n ⟨mkE 48 [(0,.val (.slice tCommit) l),(5,.val (.slice tInt) out),(6,.msl 0 0 0 f)],mkH 1 [(0,.mrow tInt 3 0 j)]⟩
def adE (f g:Nat):BW f (g+1)=BY true (sm aq) (BW f g):=Φ
def adF:∀n,BW FU n=mp4 aq (BX n):=bo Φ λf _ h=>(adE FU f).trans (by rw[h];funext _ _ _ _;simp only[BY,ss])
def UT:ar prog 93 (Ns):=evX func93 (S:=adG) Ot (ag ⟨HC,sY,Cq,aoG⟩) (tys:=[(.slice tInt)]) (λf x=>Nr true (sm aq) (BW f f) x.1 x.2.1) (λx=>by show _=Option.map aq _;rw[adF FU];simp only[Nr,px,ss])
def ai4 (g:Λ)(f:(List Int)):Bool:=(px g f).isSome
def agM (g:Λ)(f:(List Int)):(List Int):=(px g f).getD (zero (.slice tInt))
def xo (m:Bool)(K:Bool→Option C)(l:Λ)(a:Int)(b:Int):Option C:=let d:=agM l [b];let c:Bool:=!a=b;nq m [1] c (nm m 2 c (ai4 l [b]) (nm m 2 c (tM d a) (nq m [1] c (K (cond c (hO d a) false)))))
def nX (l:Λ)(a:Int)(b:Int):Option Bool:=xo false some l a b
def K9:Ent:=evE (.cons (.slice tCommit) (.cons tInt (.cons tInt .unit))) ac (zero .bool) λx=>nX x.1 x.2.1 x.2.2.1
def Zz:Par:=⟨bB.tab,az [(93,Ns),(17,pO)],λ_=>look [],λ_=>look []⟩
def Zy:ar prog 91 (K9):=evX func91 (S:=Zz) aA (ag ⟨UT,sY,aoG⟩) (tys:=[.bool]) (λf x=>xo true (sm ac) x.1 x.2.1 x.2.2.1) (λx=>by show _=Option.map ac _;simp only[xo,nX,ss])
abbrev aB (C:Type):=Λ→(List Int)→(List Int)→Int→Option C
abbrev lH (C:Type):=Λ→(List Int)→(List Int)→Int→Bool→Int→Option C
abbrev Xq (C:Type):=Λ→(List Int)→(List Int)→Int→Int→Bool→Option C
abbrev Ce (C:Type):=Λ→(List Int)→Int→(List Int)→Option C
def ub (m:Bool)(K:(List Int)→Option C)(g:lH C):aB C:=λl f out i=>cond (i<il f) (ck (bd i f.length) (cl m (.cons tCommit (.cons .bool .unit)) (jp l (ix tInt f i)) (λr1=>g l f out i r1.2.1 0))) (K out)
def qh (m:Bool)(K:(List Int)→Option C)(g:lH C):Xq C:=λl f out i p ok=>fz m tInt (w64 (p+1)) λj=>g l f out i ok j
def qi (m:Bool)(K:(List Int)→Option C)(g:aB C):Ce C:=λl f i out=>fz m tInt (w64 (i+1)) λj=>g l f out j
def ua (m:Bool)(K:(List Int)→Option C)(g:lH C)(j:aB C):lH C:=λl f out i ok p=>let b:=ix tInt f i;let a:=bd i f.length;nq m [2,3,1] ok (cond (cond ok (p<il f) false) (ck a (ck (bd p f.length) (cl m .bool (nX l b (ix tInt f p)) (λJ=>cond J (qh m K g l f out i p false) (qh m K g l f out i p ok))))) (cond ok (ck a (cl m (.slice tInt) (gq out b) (λr=>qi m K j l f i r))) (qi m K j l f i out)))
def Ej (m:Bool)(K:(List Int)→Option C)(g:aB C)(l:Λ)(f:(List Int)):Option C:=g l f [] 0
def qf (g:aB (List Int)):Nat→lH (List Int):=lp (λ_ _ _ _ _ _=>none) λf=>ua false some f g
def vZ:Nat→aB (List Int):=lp (λ_ _ _ _=>none) λf=>ub false some (qf f FU)
def uc (l:Λ)(f:(List Int)):Option (List Int):=Ej false some (vZ FU) l f
def U8:Ent:=evE (.cons (.slice tCommit) (.cons (.slice tInt) .unit)) aq (zero (.slice tInt)) λx=>uc x.1 x.2.1
def di:MS:=⟨0,[],[(0,.dat (.slice tCommit)),(1,.dat (.slice tInt)),(5,.dat (.slice tInt)),(6,.dat tInt)]⟩
def Cf:MS:=⟨0,[],[(0,.dat (.slice tCommit)),(1,.dat (.slice tInt)),(5,.dat (.slice tInt)),(6,.dat tInt),(8,.dat .bool),(9,.dat tInt)]⟩
def U9:Par:=⟨bB.tab,az [(45,Bp),(91,K9),(19,yB)],λ_=>look [(8,Cf),(4,di)],λ_=>look [(3,di),(7,Cf)]⟩
def rT:=h13 U9 f52
def qg (g n:Nat):aB AV:=λl f out i=>aE 0 di (rT g 0 [1,1,0,1,0,0]) (aj 0 (aL 0 none (rT g 0 [1,1,1]) xn)) n ⟨mkE 52 [(0,.val (.slice tCommit) l),(1,.val (.slice tInt) f),(5,.val (.slice tInt) out),(6,.val tInt i)],mkH 0 []⟩
def vY (f p n:Nat):lH AV:=λl g out i ok j=>aE 0 Cf (rT f 0 [1,1,0,1,0,0,1,0,0,1,0,1,0,0]) (aj 2 (aL 0 none (rT f 0 [1,1,0,1,0,0,1,0,0,1,1]) (aj 1 (aL 0 (some di) (rT f 0 [1,1,0,1,0,0,1,1]) (kLp 0 di (rT f 0 [1,1,0,1,0,0]) (aj 0 (aL 0 none (rT f 0 [1,1,1]) xn)) p))))) n ⟨mkE 52 [(0,.val (.slice tCommit) l),(1,.val (.slice tInt) g),(5,.val (.slice tInt) out),(6,.val tInt i),(8,.val .bool ok),(9,.val tInt j)],mkH 0 []⟩
def Xt (f g:Nat):qg f (g+1)=ub true (sm aq) (vY f g f):=Φ
def Xr (f g j:Nat):vY f g (j+1)=ua true (sm aq) (vY f g j) (qg f g):=Φ
def Xs (j:Nat){f:aB (List Int)}(g:qg FU j=mp4 aq f):∀n,vY FU j n=mp6 aq (qf f n):=bo Φ λl _ h=>(Xr FU j l).trans (by rw[h,g];funext _ _ _ _ _ _;simp only[ua,qi,qh,ss])
def Xu:∀n,qg FU n=mp4 aq (vZ n):=bo Φ λf _ h=>(Xt FU f).trans (by rw[Xs f h FU];funext _ _ _ _;simp only[ub,qi,qh,ss])
def ad2:ar prog 52 (U8):=evX func52 (S:=U9) aA (ag ⟨HC,Zy,Cq,aoG⟩) (tys:=[(.slice tInt)]) (λf x=>Ej true (sm aq) (qg f f) x.1 x.2.1) (λx=>by show _=Option.map aq _;rw[Xu FU];simp only[Ej,uc,qi,qh,ss])
abbrev dQ (C:Type):=Λ→(List Int)→Int→Option C
abbrev nu (C:Type):=Λ→(List Int)→Int→Bool→Int→Option C
abbrev Ud (C:Type):=Λ→Int→(List Int)→Option C
def rj (m:Bool)(K:(List Int)→Option C)(f:nu C):dQ C:=λl out i=>cond (i<il l) (f l out i true 0) (K out)
def lV (m:Bool)(K:(List Int)→Option C)(f:dQ C):Ud C:=λl i out=>fz m tInt (w64 (i+1)) λg=>f l out g
def ri (m:Bool)(K:(List Int)→Option C)(g:nu C)(f:dQ C):nu C:=λl out i head j=>let c:=bd i l.length;let b:=ix tCommit l j;let a:=ix tCommit l i;cond (j<il l) (nm m 2 head (bd j l.length) (nq m [2,2] head (nm m 2 head c (nq m [2,2] head (nm m 2 head (tM b.2.1 a.1) (nq m [2,1] head (fz m .bool (cond head (!hO b.2.1 a.1) false) (λr=>fz m tInt (w64 (j+1)) λp=>g l out i r p)))))))) (cond head (ck c (ck (lm (List.length out+List.length ([a.1]:List Int))) (fz m (.slice tInt) (out++[a.1]) (λJ=>lV m K f l i J)))) (lV m K f l i out))
def AY (m:Bool)(K:(List Int)→Option C)(f:dQ C)(l:Λ):Option C:=f l [] 0
def nx (g:dQ (List Int)):Nat→nu (List Int):=lp (λ_ _ _ _ _=>none) λf=>ri false some f g
def sX:Nat→dQ (List Int):=lp (λ_ _ _=>none) λf=>rj false some (nx f FU)
def rk (l:Λ):Option (List Int):=AY false some (sX FU) l
def Qz:Ent:=evE (.cons (.slice tCommit) .unit) aq (zero (.slice tInt)) λx=>rk x.1
def nv:MS:=⟨0,[],[(0,.dat (.slice tCommit)),(3,.own tInt 3),(4,.dat tInt)]⟩
def Ht:MS:=⟨0,[],[(0,.dat (.slice tCommit)),(3,.own tInt 3),(4,.dat tInt),(5,.dat .bool),(6,.dat tInt)]⟩
def QA:Par:=⟨bB.tab,az [(17,pO)],λ_=>look [(4,nv)],λ_=>look [(3,nv),(7,Ht)]⟩
def nz:=h13 QA f151
def ny (f n:Nat):dQ AV:=λl out i=>aE 0 nv (nz f 0 [1,1,0,1,0,0]) (aj 0 (aL 0 none (nz f 0 [1,1,1]) MP)) n ⟨mkE 44 [(0,.val (.slice tCommit) l),(3,.own 0 0 tInt out),(4,.val tInt i)],mkH 1 [(0,.row tInt 3 0)]⟩
def sW (f j n:Nat):nu AV:=λl out i head g=>aE 0 Ht (nz f 0 [1,1,0,1,0,0,1,0,0,1,0,1,0,0]) (aj 2 (aL 0 none (nz f 0 [1,1,0,1,0,0,1,0,0,1,1]) (aj 1 (aL 0 (some nv) (nz f 0 [1,1,0,1,0,0,1,1]) (kLp 0 nv (nz f 0 [1,1,0,1,0,0]) (aj 0 (aL 0 none (nz f 0 [1,1,1]) MP)) j))))) n ⟨mkE 44 [(0,.val (.slice tCommit) l),(3,.own 0 0 tInt out),(4,.val tInt i),(5,.val .bool head),(6,.val tInt g)],mkH 1 [(0,.row tInt 3 0)]⟩
def Ug (f g:Nat):ny f (g+1)=rj true (sm aq) (sW f g f):=Φ
def Ue (f g j:Nat):sW f g (j+1)=ri true (sm aq) (sW f g j) (ny f g):=Φ
def Uf (j:Nat){f:dQ (List Int)}(g:ny FU j=mp3 aq f):∀n,sW FU j n=mp5 aq (nx f n):=bo Φ λl _ h=>(Ue FU j l).trans (by rw[h,g];funext _ _ _ _ _;simp only[ri,lV,ss])
def Uh:∀n,ny FU n=mp3 aq (sX n):=bo Φ λf _ h=>(Ug FU f).trans (by rw[Uf f h FU];funext _ _ _;simp only[rj,lV,ss])
def abU:ar prog 151 (Qz):=evX func151 (S:=QA) aA (ag ⟨sY,aoG⟩) (tys:=[(.slice tInt)]) (λf x=>AY true (sm aq) (ny f f) x.1) (λx=>by show _=Option.map aq _;rw[Uh FU];simp only[AY,rk,lV,ss])
def ol (m:Bool)(K:Bool→Option C)(c:tCommit.den)(id:Int)(field:Int):Option C:=cl m (.cons aJ (.cons .bool .unit)) (bL c.2.2.2.2.1 id field) λr1=>K r1.2.1
def fq (c:tCommit.den)(id:Int)(field:Int):Option Bool:=ol false some c id field
def Db:Ent:=evE (.cons tCommit (.cons tInt (.cons tInt .unit))) ac (zero .bool) λx=>fq x.1 x.2.1 x.2.2.1
def NL:Par:=⟨bB.tab,az [(64,i6)],λ_=>look [],λ_=>look []⟩
def NK:ar prog 140 (Db):=evX func140 (S:=NL) aA (ag ⟨l6,aoG⟩) (tys:=[.bool]) (λf x=>ol true (sm ac) x.1 x.2.1 x.2.2.1) (λx=>by show _=Option.map ac _;simp only[ol,fq,ss])
abbrev gR (C:Type):=Λ→(List Int)→Λ→(List (List Int))→Int→Option C
abbrev O3 (C:Type):=Λ→(List Int)→Int→Λ→(List (List Int))→Option C
abbrev bD (C:Type):=Λ→(List (List Int))→Int→(List ah.den)→Option C
abbrev bS (C:Type):=Λ→(List (List Int))→Int→Int→(List ah.den)→Option C
abbrev iF (C:Type):=Λ→(List (List Int))→Int→Int→(List ah.den)→Bool→Int→Option C
def eU (m:Bool)(K:ai.den→Option C)(j:gR C):O3 C:=λl r i f g=>fz m tInt (w64 (i+1)) λp=>j l r f g p
def mK (m:Bool)(K:ai.den→Option C)(j:gR C)(J:bD C):gR C:=λl p f g i=>let b:=ix tCommit l i;let a:=bd i l.length;cond (i<il l) (ck a (cl m .bool (lw p b.1) (λr1=>cond r1 (ck a (ck (lm (List.length f+List.length ([ix tCommit l i]:List tCommit.den))) (ck a (cl m (.slice tInt) (px l [b.1]) (λR=>ck (lm (List.length g+List.length ([R]:List (List Int)))) (fz m (.slice tCommit) (f++[ix tCommit l i]) (λP=>fz m (.slice (.slice tInt)) (g++[R]) λr=>eU m K j l p i P r))))))) (eU m K j l p i f g)))) (J f g 0 [])
def j6 (m:Bool)(K:ai.den→Option C)(j:bS C):bD C:=λf l i g=>cond (i<il f) (j f l i 0 g) (K (g,()))
def j4 (m:Bool)(K:ai.den→Option C)(p:iF C)(J:bD C):bS C:=λf g i l j=>let b:=bd i f.length;let a:=ix tCommit f i;ck b (cond (l<il a.2.2.2.2.1) (ck b (ck (bd l a.2.2.2.2.1.length) (p f g i l j true 0))) (fz m tInt (w64 (i+1)) (λr=>J f g r j)))
def dC (m:Bool)(K:ai.den→Option C)(g:bS C):bS C:=λf j i r l=>fz m tInt (w64 (r+1)) λp=>g f j i p l
def E1 (j:tCommit.den)(g:Int)(f:Int):Bool:=(fq j g f).isSome
def eJ (j:tCommit.den)(g:Int)(f:Int):Bool:=(fq j g f).getD (zero .bool)
def jZ (m:Bool)(K:ai.den→Option C)(T:iF C)(J:bS C):iF C:=λl p i R r P j=>let h:Bool:=!j=i;let f:=bd i l.length;let e:=ix (.slice tInt) p j;let d:=ix tCommit l j;let c:=ix tCommit l i;let a:=ix aa c.2.2.2.2.1 R;let g:Bool:=!eJ d a.1 a.2.1;let b:Bool:=!cond (j=i) true g;nq m [1] (j<il l) (cond (cond (j<il l) P false) (nm m 2 h (bd j l.length) (nq m [2,2,2] h (nm m 3 h (E1 d a.1 a.2.1) (nq m [2,0] h (nm m 2 b (bd j p.length) (nq m [2] b (nm m 2 b f (nq m [2,2] b (nm m 2 b (tM e c.1) (nq m [2,0] b (fz m .bool (cond (cond (j=i) true g) true (!hO e c.1)) (λy5_=>fz m tInt (w64 (j+1)) λy6_=>T l p i R r y5_ y6_)))))))))))) (cond P (ce m (.slice eO) (b9 (r,()) a.1 a.2.1) (iV (r,()) a.1 a.2.1) (λU=>ck (lm (List.length ([]:List eO.den)+List.length U)) (ck f (ck (lm (List.length ([]++U)+List.length ([(c.1,a.2.2.1,())]:List eO.den))) (ce m ai (aei (r,()) a.1 a.2.1 ([]++U++[(c.1,a.2.2.1,())])) (pG (r,()) a.1 a.2.1 ([]++U++[(c.1,a.2.2.1,())])) (λr4=>dC m K J l p i R r4.1)))))) (dC m K J l p i R r)))
def wq (m:Bool)(K:ai.den→Option C)(f:gR C)(l:Λ)(g:(List Int)):Option C:=f l g [] [] 0
def iH (J:bD ai.den)(g:bS ai.den):Nat→iF ai.den:=lp (λ_ _ _ _ _ _ _=>none) λf=>jZ false some f g
def iJ (J:bD ai.den):Nat→bS ai.den:=lp (λ_ _ _ _ _=>none) λf=>j4 false some (iH J f FU) J
def iK:Nat→bD ai.den:=lp (λ_ _ _ _=>none) λJ=>j6 false some (iJ J FU)
def jY:Nat→gR ai.den:=lp (λ_ _ _ _ _=>none) λf=>mK false some f (iK FU)
def mM (l:Λ)(f:(List Int)):Option ai.den:=wq false some (jY FU) l f
def bh (r:ai.den):AV :=.val ai r
def JO:Ent:=evE (.cons (.slice tCommit) (.cons (.slice tInt) .unit)) bh (zero ai) λx=>mM x.1 x.2.1
def uB:MS:=⟨1,[(0,[.dat (.slice ah)])],[(0,.dat (.slice tCommit)),(1,.dat (.slice tInt)),(4,.keep),(5,.own tCommit 38),(6,.own (.slice tInt) 23),(7,.dat tInt)]⟩
def la:MS:=⟨8,[(0,[.dat (.slice ah)]),(7,[.dat (.slice ah)])],[(4,.keep),(5,.own tCommit 38),(6,.own (.slice tInt) 23),(8,.keep),(9,.dat tInt)]⟩
def iG:MS:=⟨8,[(0,[.dat (.slice ah)]),(7,[.dat (.slice ah)])],[(4,.keep),(5,.own tCommit 38),(6,.own (.slice tInt) 23),(8,.keep),(9,.dat tInt),(10,.dat tInt)]⟩
def zX:MS:=⟨27,[(0,[.dat (.slice ah)]),(7,[.dat (.slice ah)]),(26,[.dat tInt,.dat tInt,.dat tInt,.dat .bool,.dat .str,.dat tInt])],[(4,.keep),(5,.own tCommit 38),(6,.own (.slice tInt) 23),(8,.keep),(9,.dat tInt),(10,.dat tInt),(11,.keep),(12,.dat .bool),(13,.dat tInt)]⟩
def JP:Par:=⟨bB.tab,az [(17,pO),(93,Ns),(140,Db),(141,ET),(142,SE)],λ_=>look [(5,uB),(15,iG)],λ_=>look [(4,uB),(11,la),(14,iG),(19,zX)]⟩
def wt:KT:=bg bB.tab [.cell 4 96] [ai]
def bO:=h13 JP f92
def oT (f n:Nat):gR AV:=λl p g j i=>aE 0 uB (bO f 0 [1,1,1,0,1,0,0]) (aj 0 (aL 0 none (bO f 0 [1,1,1,1]) wt)) n ⟨mkE 134 [(0,.val (.slice tCommit) l),(1,.val (.slice tInt) p),(4,.box 0 0),(5,.own 1 0 tCommit g),(6,.own 2 0 (.slice tInt) j),(7,.val tInt i)],mkH 3 [(0,.box [.val (.slice ah) []]),(1,.row tCommit 38 0),(2,.row (.slice tInt) 23 0)]⟩
def fy (f n:Nat):bD AV:=λg j i l=>aE 0 la (bO f 0 [1,1,1,1,1,0,1,0,0]) (aj 2 (aL 0 none (bO f 0 [1,1,1,1,1,1]) wt)) n ⟨mkE 134 [(4,.box 0 0),(5,.own 8 0 tCommit g),(6,.own 9 0 (.slice tInt) j),(8,.box 7 0),(9,.val tInt i)],mkH 10 [(0,.box [.val (.slice ah) []]),(1,.row tCommit 38 1),(2,.row (.slice tInt) 23 1),(7,.box [.val (.slice ah) l]),(8,.row tCommit 38 0),(9,.row (.slice tInt) 23 0)]⟩
def iI (f r n:Nat):bS AV:=λg j i p l=>aE 0 iG (bO f 0 [1,1,1,1,1,0,1,0,0,1,0,0,1,0,0]) (aj 4 (aj 3 (aL 0 none (bO f 0 [1,1,1,1,1,0,1,0,0,1,1]) (kLp 0 la (bO f 0 [1,1,1,1,1,0,1,0,0]) (aj 2 (aL 0 none (bO f 0 [1,1,1,1,1,1]) wt)) r)))) n ⟨mkE 134 [(4,.box 0 0),(5,.own 8 0 tCommit g),(6,.own 9 0 (.slice tInt) j),(8,.box 7 0),(9,.val tInt i),(10,.val tInt p)],mkH 10 [(0,.box [.val (.slice ah) []]),(1,.row tCommit 38 1),(2,.row (.slice tInt) 23 1),(7,.box [.val (.slice ah) l]),(8,.row tCommit 38 0),(9,.row (.slice tInt) 23 0)]⟩
def ld (f P J n:Nat):iF AV:=λg p i r C l j=>let a:=ix aa (ix tCommit g i).2.2.2.2.1 r;aE 0 zX (bO f 0 [1,1,1,1,1,0,1,0,0,1,0,0,1,0,0,1,0,0,1,1,0,1,0,0]) (aj 6 (aL 0 none (bO f 0 [1,1,1,1,1,0,1,0,0,1,0,0,1,0,0,1,0,0,1,1,1]) (aj 5 (aL 0 (some iG) (bO f 0 [1,1,1,1,1,0,1,0,0,1,0,0,1,0,0,1,1]) (kLp 0 iG (bO f 0 [1,1,1,1,1,0,1,0,0,1,0,0,1,0,0]) (aj 4 (aj 3 (aL 0 none (bO f 0 [1,1,1,1,1,0,1,0,0,1,1]) (kLp 0 la (bO f 0 [1,1,1,1,1,0,1,0,0]) (aj 2 (aL 0 none (bO f 0 [1,1,1,1,1,1]) wt)) P)))) J))))) n ⟨mkE 134 [(4,.box 0 0),(5,.own 27 0 tCommit g),(6,.own 28 0 (.slice tInt) p),(8,.box 7 0),(9,.val tInt i),(10,.val tInt r),(11,.box 26 0),(12,.val .bool l),(13,.val tInt j)],mkH 29 [(0,.box [.val (.slice ah) []]),(1,.row tCommit 38 1),(2,.row (.slice tInt) 23 1),(7,.box [.val (.slice ah) C]),(8,.row tCommit 38 1),(9,.row (.slice tInt) 23 1),(26,.box [.val tInt a.1,.val tInt a.2.1,.val tInt a.2.2.1.1,.val .bool a.2.2.1.2.1,.val .str a.2.2.1.2.2.1,.val tInt a.2.2.1.2.2.2.1]),(27,.row tCommit 38 0),(28,.row (.slice tInt) 23 0)]⟩
def O4 (f g:Nat):oT f (g+1)=mK true (sm bh) (oT f g) (fy f f):=Φ
def L4 (f g:Nat):fy f (g+1)=j6 true (sm bh) (iI f g f):=Φ
def L0 (f g j:Nat):iI f g (j+1)=j4 true (sm bh) (ld f g j f) (fy f g):=Φ
def LY (f j g l:Nat):ld f j g (l+1)=jZ true (sm bh) (ld f j g l) (iI f j g):=Φ
variable{J:bD ai.den}
def LZ (g j:Nat)(r:fy FU g=mp4 bh J){f:bS ai.den}(l:iI FU g j=mp5 bh f):∀n,ld FU g j n=mp7 bh (iH J f n):=bo Φ λp _ h=>(LY FU g j p).trans (by rw[h,l];funext _ _ _ _ _ _ _;simp only[jZ,dC,eU,ss])
def L3 (g:Nat)(f:fy FU g=mp4 bh J):∀n,iI FU g n=mp5 bh (iJ J n):=bo Φ λj _ h=>(L0 FU g j).trans (by rw[LZ g j f h FU,f];funext _ _ _ _ _;simp only[j4,dC,eU,ss])
def L5:∀n,fy FU n=mp4 bh (iK n):=bo Φ λf _ h=>(L4 FU f).trans (by rw[L3 f h FU];funext _ _ _ _;simp only[j6,dC,eU,ss])
def O5:∀n,oT FU n=mp5 bh (jY n):=bo Φ λf _ h=>(O4 FU f).trans (by rw[h,L5 FU];funext _ _ _ _ _;simp only[mK,dC,eU,ss])
def XX:ar prog 92 (JO):=evX func92 (S:=JP) aA (ag ⟨sY,UT,NK,Nt,ag3,aoG⟩) (tys:=[ai]) (λf x=>wq true (sm bh) (oT f f) x.1 x.2.1) (λx=>by show _=Option.map bh _;rw[O5 FU];simp only[wq,mM,dC,eU,ss])
def ES (m:Bool)(K:ai.den→Option C)(l:Λ)(f:(List Int)):Option C:=cl m (.slice tInt) (px l f) λr1=>cl m ai (mM l r1) λg=>K g
def rz (l:Λ)(f:(List Int)):Option ai.den:=ES false some l f
def Nm:Ent:=evE (.cons (.slice tCommit) (.cons (.slice tInt) .unit)) bh (zero ai) λx=>rz x.1 x.2.1
def af7:Par:=⟨bB.tab,az [(93,Ns),(92,JO)],λ_=>look [],λ_=>look []⟩
def WO:ar prog 53 (Nm):=evX func53 (S:=af7) aA (ag ⟨UT,XX,aoG⟩) (tys:=[ai]) (λf x=>ES true (sm bh) x.1 x.2.1) (λx=>by show _=Option.map bh _;simp only[ES,rz,ss])
def Eh (m:Bool)(K:Str→Option C)(f:Int)(x:Int):Option C:=let a:=cond (f=1) true (f=3);nq m [2,0] (!f=1) (cl m tInt (mod2_ev x 5) (λr1=>cond (r1=0) (cond a (K [77]) (K [102])) (cond (r1=1) (cond a (K [78]) (K [103])) (cond (r1=2) (cond a (K [84]) (K [120])) (cond (r1=3) (cond a (K [65,98,49]) (K [121])) (cond a (K [81]) (K [107,95,50])))))))
def jO (f:Int)(x:Int):Option Str:=Eh false some f x
def kW (r:Str):AV :=.val .str r
def Lx:Ent:=evE (.cons tInt (.cons tInt .unit)) kW (zero .str) λx=>jO x.1 x.2.1
def Ei:Par:=⟨bB.tab,az [(18,sE)],λ_=>look [],λ_=>look []⟩
def U4:ar prog 96 (Lx):=evX func96 (S:=Ei) aA (ag ⟨mod2_x,aoG⟩) (tys:=[.str]) (λf x=>Eh true (sm kW) x.1 x.2.1) (λx=>by show _=Option.map kW _;simp only[Eh,jO,ss])
def vX (m:Bool)(K:Str→Option C)(x:Int):Option C:=cl m tInt (mod2_ev x 5) λr1=>cond (r1=0) (K [32]) (cond (r1=1) (K [10]) (cond (r1=2) (K [32,35,32,110,111,116,101,10]) (cond (r1=3) (K []) (K [9,32,32]))))
def mv (x:Int):Option Str:=vX false some x
def Ju:Ent:=evE (.cons tInt .unit) kW (zero .str) λx=>mv x.1
def Xn:ar prog 99 (Ju):=evX func99 (S:=Ei) aA (ag ⟨mod2_x,aoG⟩) (tys:=[.str]) (λf x=>vX true (sm kW) x.1) (λx=>by show _=Option.map kW _;simp only[vX,mv,ss])
def MM (m:Bool)(K:Str→Option C)(x:Int):Option C:=cl m tInt (mod2_ev x 26) λr1=>ck (!(26:Int)=0) (cl m tInt (mod2_ev (w64 (Int.tdiv x 26)) 25) (λf=>K (List.map (λn : Int=>UInt8.ofNat n.toNat) [IntKind.wrap .u8 (w64 ((97:Int)+r1)),IntKind.wrap .u8 (w64 ((98:Int)+f))])))
def sM (x:Int):Option Str:=MM false some x
def abJ:Ent:=evE (.cons tInt .unit) kW (zero .str) λx=>sM x.1
def ahF:ar prog 100 (abJ):=evX func100 (S:=Ei) aA (ag ⟨mod2_x,aoG⟩) (tys:=[.str]) (λf x=>MM true (sm kW) x.1) (λx=>by show _=Option.map kW _;simp only[MM,sM,ss])
abbrev ez (C:Type):=Int→ai.den→(List Int)→Int→Option C
abbrev IT (C:Type):=Int→Int→ai.den→(List Int)→Option C
def fF (m:Bool)(K:(List Int)→Option C)(g:ez C):IT C:=λf i s out=>fz m tInt (w64 (i+1)) λj=>g f s out j
def ahD (g:ai.den)(f:Int):Bool:=(gc g f).isSome
def ahE (g:ai.den)(f:Int):Int:=(gc g f).getD (zero tInt)
def dR (m:Bool)(K:(List Int)→Option C)(g:ez C):ez C:=λf s out i=>let b:=bd i s.1.length;let a:=ix ah s.1 i;cond (i<il s.1) (ck b (nq m [2,2] (a.2.1=1) (nq m [2] (a.2.1=1&&!f=0) (nm m 2 (a.2.1=1&&!f=0) b (nq m [2,2] (a.2.1=1&&!f=0) (nm m 2 (a.2.1=1&&!f=0) (ahD s a.1) (nq m [3] (a.2.1=1&&!f=0) (nm m 0 (a.2.1=1) (ii (a.2.1=1&&!f=0)) (nq m [1] (a.2.1=1) (cond (cond (a.2.1=1) (cond (f=0) true (ahE s a.1=f)) false) (ck b (ck (lm (List.length out+List.length ([a.1]:List Int))) (fz m (.slice tInt) (out++[a.1]) (λj=>fF m K g f i s j)))) (fF m K g f i s out))))))))))) (K out)
def kF (m:Bool)(K:(List Int)→Option C)(g:ez C)(s:ai.den)(f:Int):Option C:=g f s [] 0
def eA:Nat→ez (List Int):=lp (λ_ _ _ _=>none) λf=>dR false some f
def aD (s:ai.den)(f:Int):Option (List Int):=kF false some (eA FU) s f
def kG:Nw:=nwE tInt (.cons ai (.cons tInt .unit)) 3 λx=>aD x.1 x.2.1
def pR:MS:=⟨1,[(0,[.dat (.slice ah)])],[(1,.dat tInt),(2,.keep),(5,.own tInt 3),(6,.dat tInt)]⟩
def DZ:Par:=⟨bB.tab,az [(95,AM)],λ_=>look [(4,pR)],λ_=>look [(3,pR)]⟩
def Q0:KT:=aaN bB.tab [.tmp 4] tInt 3
def D0:=h13 DZ f59
def jL (f n:Nat):ez AV:=λg s out i=>aE 0 pR (D0 f 0 [1,1,0,1,0,0]) (aj 0 (aL 0 none (D0 f 0 [1,1,1]) Q0)) n ⟨mkE 47 [(1,.val tInt g),(2,.box 0 0),(5,.own 1 0 tInt out),(6,.val tInt i)],mkH 2 [(0,.box [.val (.slice ah) s.1]),(1,.row tInt 3 0)]⟩
def IV (f g:Nat):jL f (g+1)=dR true (sm aq) (jL f g):=Φ
def IW:∀n,jL FU n=mp4 aq (eA n):=bo Φ λf _ h=>(IV FU f).trans (by rw[h];funext _ _ _ _;simp only[dR,fF,ss])
def pm:UZ prog 59 (kG):=nwX func59 (S:=DZ) aA (ag ⟨EE,aoG⟩) (λf x=>kF true (sm aq) (jL f f) x.1 x.2.1) (λx=>by show _=Option.map aq _;rw[IW FU];simp only[kF,aD,fF,ss])
def Ew (m:Bool)(K:Int→Option C)(l:(List Int))(x:Int):Option C:=cond (il l=0) (K 0) (cl m tInt (mod2_ev x (il l)) (λr1=>ck (bd r1 l.length) (K (ix tInt l r1))))
def ba (l:(List Int))(x:Int):Option Int:=Ew false some l x
def An:Ent:=evE (.cons (.slice tInt) (.cons tInt .unit)) ax (zero tInt) λx=>ba x.1 x.2.1
def Eu:ar prog 60 (An):=evX func60 (S:=Ei) aA (ag ⟨mod2_x,aoG⟩) (tys:=[tInt]) (λf x=>Ew true (sm ax) x.1 x.2.1) (λx=>by show _=Option.map ax _;simp only[Ew,ba,ss])
def Et (m:Bool)(K:aJ.den→Option C)(s:ai.den)(id:Int)(field:Int):Option C:=ce m (.slice eO) (b9 s id field) (iV s id field) λr1=>cond (il r1=0) (K (0,false,[],0,())) (ck (bd 0 r1.length) (K (ix eO r1 0).2.1))
def fX (s:ai.den)(id:Int)(field:Int):Option aJ.den:=Et false some s id field
def Vy:Ent:=evE (.cons ai (.cons tInt (.cons tInt .unit))) cQ (zero aJ) λx=>fX x.1 x.2.1 x.2.2.1
def aen:ar prog 98 (Vy):=evX func98 (S:=VY) aA (ag ⟨Nt,aoG⟩) (tys:=[aJ]) (λf x=>Et true (sm cQ) x.1 x.2.1 x.2.2.1) (λx=>by show _=Option.map cQ _;simp only[Et,fX,ss])
def we (m:Bool)(K:aJ.den→Option C)(v:aJ.den)(s:ai.den)(x:Int):Option C:=let b:=w64 (Int.tdiv x 4);let a:=w64 (Int.tdiv x 6);nq m [2,2,1] (v.1≥5) (cond (cond (v.1≥5) (v.1≤9) false) (cl m tInt (mod2_ev x 4) (λr1=>cond (r1=0) (K (5,false,[],0,())) (cond (r1=1) (K (6,false,[],0,())) (cond (r1=2) (ck (!(4:Int)=0) (cl m .str (jO 3 b) (λJ=>K (9,false,J,0,())))) (cl m (.slice tInt) (aD s 3) (λr=>ck (!(4:Int)=0) (cl m tInt (ba r b) (λj=>cond (!j=0) (K (9,false,[],j,())) (K (7,false,[],0,())))))))))) (cond (v.1=21) (cl m tInt (mod2_ev x 2) (λp=>cond (p=0) (K (21,false,[42],0,())) (K (21,false,[60],0,())))) (cond (v.1=20) (cl m .str (jO 2 x) (λl=>K (20,false,l,0,()))) (cl m tInt (mod2_ev x 6) (λf=>cond (f=0) (K (10,false,[51],0,())) (cond (f=1) (K (11,false,[34,115,34],0,())) (cond (f=2) (cl m (.slice tInt) (aD s 4) (λr8=>ck (!(6:Int)=0) (cl m tInt (ba r8 a) (λr9=>cond (!r9=0) (K (12,false,[],r9,())) (K (12,false,[122],0,())))))) (cond (f=3) (cl m (.slice tInt) (aD s 2) (λr10=>ck (!(6:Int)=0) (cl m tInt (ba r10 a) (λr11=>cond (!r11=0) (ck (!(6:Int)=0) (cl m tInt (mod2_ev a 3) (λg=>K (16,decide (g=0),[],r11,())))) (K (16,false,[77,46,102],0,())))))) (cond (f=4) (K (10,false,[49,50],0,())) (K (13,false,[],0,())))))))))))
def eQ (v:aJ.den)(s:ai.den)(x:Int):Option aJ.den:=we false some v s x
def JD:Ent:=evE (.cons aJ (.cons ai (.cons tInt .unit))) cQ (zero aJ) λx=>eQ x.1 x.2.1 x.2.2.1
def XH:Par:=⟨bB.tab,Fv [(18,sE),(96,Lx),(60,An)] [] [] [] [(59,kG)],λ_=>look [],λ_=>look []⟩
def XG:ar prog 97 (JD):=evX func97 (S:=XH) aA (v8 ⟨mod2_x,U4,Eu,aoG⟩ trivial trivial trivial ⟨pm,aoG⟩) (tys:=[aJ]) (λf x=>we true (sm cQ) x.1 x.2.1 x.2.2.1) (λx=>by show _=Option.map cQ _;simp only[we,eQ,ss])
abbrev cr (C:Type):=Υ→Nat→Int→Υ→Option C
abbrev jR (C:Type):=Υ→Int→Nat→Int→Υ→Option C
abbrev LF (C:Type):=Υ→Int→Int→Nat→Int→Υ→Option C
abbrev OE (C:Type):=Υ→Int→Nat→Υ→Option C
def mA (m:Bool)(K:bx→Option C)(g:jR C):cr C:=λl f i out=>cond (i<il l) (fz m tInt (ni f) (λj=>g l i f j out)) (K ((List.take f out).drop 0))
def mB (m:Bool)(K:bx→Option C)(g:cr C):OE C:=λl i f out=>fz m tInt (w64 (i+1)) λj=>g l f j out
def eP (m:Bool)(K:bx→Option C)(p:cr C):LF C:=λl i g f j out=>let a:=List.take (0+f) out;ck (0≤j&&j≤ni f) (ck (lm (List.length ([]:List aa.den)+List.length (a.drop (0+Int.toNat j)))) (ck (0≤g&&g≤ni f) (ck (bd i l.length) (ck (lm (0+Int.toNat g+List.length ([ix aa l i]:List aa.den))) (ck (lm (0+Int.toNat g+List.length ([ix aa l i]:List aa.den)+List.length (([]:List aa.den)++a.drop (0+Int.toNat j)))) (fm m (0+Int.toNat g+List.length ([ix aa l i]:List aa.den)+List.length (([]:List aa.den)++a.drop (0+Int.toNat j))) (λJ=>fz m (.slice aa) (List.take (0+Int.toNat g+List.length ([ix aa l i]:List aa.den)) (List.take (0+Int.toNat g) out++[ix aa l i])++(([]:List aa.den)++a.drop (0+Int.toNat j))) λr=>mB m K p l i J r)))))))
def mz (m:Bool)(K:bx→Option C)(J:jR C)(r:cr C):jR C:=λl i j p out=>let g:=w64 (p-1);let f:=ix aa l i;let e:=List.getD out (0+Int.toNat p) (zero aa);let d:=decide (p>0);let c:=bd i l.length;let b:=List.getD out (0+Int.toNat g) (zero aa);let a:Bool:=cond (p<ni j) (e.1=f.1) false;nq m [2] (p>0) (nm m 2 (p>0) (0≤w64 (p-1)&&w64 (p-1)<ni j) (nq m [2,2,2] (p>0) (nm m 2 (p>0) (0≤w64 (p-1)&&w64 (p-1)<ni j) (nq m [2,2] (p>0) (nm m 2 (p>0) c (nq m [2,2] (p>0) (nm m 2 (p>0) c (nq m [2,2] (p>0) (ck (ii d&&(ii d&&(ii d&&(ii d&&true)))&&true) (nq m [2,1] (p>0) (cond (cond (p>0) (!vI b.1 b.2.1 f.1 f.2.1) false) (fz m tInt g (λR=>J l i j R out)) (nm m 2 (p<ni j) (0≤p&&p<ni j) (nq m [2,2] (p<ni j) (nm m 2 (p<ni j) c (nq m [2,2,3,1] (p<ni j) (nm m 2 a (0≤p&&p<ni j) (nq m [2,2] a (nm m 2 a c (nq m [2,2,3,1] a (cond (cond a (e.2.1=f.2.1) false) (fz m tInt (w64 (p+1)) (λP=>eP m K r l i p j P out)) (eP m K r l i p j p out)))))))))))))))))))))
def wa (m:Bool)(K:bx→Option C)(f:cr C)(l:Υ):Option C:=f l 0 0 []
def jT (g:cr bx):Nat→jR bx:=lp (λ_ _ _ _ _=>none) λf=>mz false some f g
def oP:Nat→cr bx:=lp (λ_ _ _ _=>none) λf=>mA false some (jT f FU)
def mC (l:Υ):Option bx:=wa false some (oP FU) l
def JA:Ent:=evE (.cons (.slice aa) .unit) bE (zero (.slice aa)) λx=>mC x.1
def jS:MS:=⟨0,[],[(0,.dat (.slice aa)),(3,.mut aa 44),(4,.dat tInt)]⟩
def Dt:MS:=⟨0,[],[(0,.dat (.slice aa)),(3,.mut aa 44),(4,.dat tInt),(5,.dat tInt)]⟩
def LG:MS:=⟨0,[],[(0,.dat (.slice aa)),(3,.mut aa 44),(4,.dat tInt),(5,.dat tInt),(6,.dat tInt)]⟩
def JB:Par:=⟨bB.tab,az [(145,xt)],λ_=>look [(11,LG),(4,jS)],λ_=>look [(3,jS),(6,Dt)]⟩
def JC:KT:=bg bB.tab [.tmp 2] [(.slice aa)]
def jd:=h13 JB f103
def jU (g n:Nat):cr AV:=λl f i out=>aE 0 jS (jd g 0 [1,1,0,1,0,0]) (aj 0 (aL 0 none (jd g 0 [1,1,1]) JC)) n ⟨mkE 96 [(0,.val (.slice aa) l),(3,.msl 0 0 0 f),(4,.val tInt i)],mkH 1 [(0,.mrow aa 44 0 out)]⟩
def oO (f p n:Nat):jR AV:=λl i g j out=>aE 0 Dt (jd f 0 [1,1,0,1,0,0,1,0,0,1,0,0,0]) (aj 2 (aL 0 none (jd f 0 [1,1,0,1,0,0,1,0,0,1,1]) (aj 1 (aL 0 (some jS) (jd f 0 [1,1,0,1,0,0,1,1]) (kLp 0 jS (jd f 0 [1,1,0,1,0,0]) (aj 0 (aL 0 none (jd f 0 [1,1,1]) JC)) p))))) n ⟨mkE 96 [(0,.val (.slice aa) l),(3,.msl 0 0 0 g),(4,.val tInt i),(5,.val tInt j)],mkH 1 [(0,.mrow aa 44 0 out)]⟩
def OH (f g:Nat):jU f (g+1)=mA true (sm bE) (oO f g f):=Φ
def OF (f g j:Nat):oO f g (j+1)=mz true (sm bE) (oO f g j) (jU f g):=Φ
def OG (j:Nat){f:cr bx}(g:jU FU j=mp4 bE f):∀n,oO FU j n=mp5 bE (jT f n):=bo Φ λl _ h=>(OF FU j l).trans (by rw[h,g];funext _ _ _ _ _;simp only[mz,eP,mB,ss])
def OI:∀n,jU FU n=mp4 bE (oP n):=bo Φ λf _ h=>(OH FU f).trans (by rw[OG f h FU];funext _ _ _ _;simp only[mA,eP,mB,ss])
def XC:ar prog 103 (JA):=evX func103 (S:=JB) aA (ag ⟨Nz,aoG⟩) (tys:=[(.slice aa)]) (λf x=>wa true (sm bE) (jU f f) x.1) (λx=>by show _=Option.map bE _;rw[OI FU];simp only[wa,mC,eP,mB,ss])
abbrev kJ (C:Type):=Int→(List Int)→aO.den→Υ→Int→Option C
abbrev rB (C:Type):=Int→(List Int)→Int→Υ→aO.den→Υ→Int→Option C
abbrev adM (C:Type):=Int→(List Int)→Int→Υ→Int→aO.den→Υ→Option C
def B6 (m:Bool)(K:bx→Option C)(f:rB C):kJ C:=λid r1 g out i=>nq m [2,1] (i<il ([id]++r1)) (cond (cond (i<il ([id]++r1)) (i<12) false) (ck (bd i ([id]++r1).length) (cl m (.slice aa) (GJ g.1 (ix tInt ([id]++r1) i)) (λj=>f id r1 i j g out 0))) (K out))
def xr (m:Bool)(K:bx→Option C)(f:rB C):adM C:=λid r1 i p j l out=>fz m tInt (w64 (j+1)) λg=>f id r1 i p l out g
def B4 (m:Bool)(K:bx→Option C)(f:rB C)(l:kJ C):rB C:=λid r1 i j J out g=>let a:=bd g j.length;cond (g<il j) (ck a (cond (!(ix aa j g).2.1=1) (ck a (ck (lm (List.length out+List.length ([ix aa j g]:List aa.den))) (fz m (.slice aa) (out++[ix aa j g]) (λp=>xr m K f id r1 i j g J p)))) (xr m K f id r1 i j g J out))) (fz m tInt (w64 (i+1)) (λr=>l id r1 J out r))
def Nv (m:Bool)(K:bx→Option C)(f:kJ C)(g:aO.den)(id:Int):Option C:=cl m (.slice tInt) (nV g id) λr1=>ck (lm (List.length ([id]:List Int)+List.length r1)) (f id r1 g [] 0)
def vG (g:kJ bx):Nat→rB bx:=lp (λ_ _ _ _ _ _ _=>none) λf=>B4 false some f g
def B5:Nat→kJ bx:=lp (λ_ _ _ _ _=>none) λf=>B6 false some (vG f FU)
def pz (f:aO.den)(id:Int):Option bx:=Nv false some (B5 FU) f id
def adR:Ent:=evE (.cons aO (.cons tInt .unit)) bE (zero (.slice aa)) λx=>pz x.1 x.2.1
def Im:MS:=⟨1,[(0,[.dat (.slice aa)])],[(2,.keep),(5,.dat (.slice tInt)),(6,.own aa 44),(7,.dat tInt)]⟩
def Il:MS:=⟨1,[(0,[.dat (.slice aa)])],[(2,.keep),(5,.dat (.slice tInt)),(6,.own aa 44),(7,.dat tInt),(8,.dat (.slice aa)),(9,.dat tInt)]⟩
def adS:Par:=⟨bB.tab,az [(143,K6),(144,agu)],λ_=>look [(9,Il)],λ_=>look [(4,Im),(8,Il)]⟩
def C6:=h13 adS f102
def vH (f n:Nat):kJ AV:=λid r1 g out i=>aE 0 Im (C6 f 0 [1,1,1,0,1,0,0]) (aj 0 (aL 0 none (C6 f 0 [1,1,1,1]) abe)) n ⟨mkE 53 [(2,.box 0 0),(5,.val (.slice tInt) ([id]++r1)),(6,.own 1 0 aa out),(7,.val tInt i)],mkH 2 [(0,.box [.val (.slice aa) g.1]),(1,.row aa 44 0)]⟩
def B0 (f p n:Nat):rB AV:=λid r1 i l j out g=>aE 0 Il (C6 f 0 [1,1,1,0,1,0,0,1,0,0,1,1,0,0]) (aj 2 (aj 1 (aL 0 none (C6 f 0 [1,1,1,0,1,0,0,1,1]) (kLp 0 Im (C6 f 0 [1,1,1,0,1,0,0]) (aj 0 (aL 0 none (C6 f 0 [1,1,1,1]) abe)) p)))) n ⟨mkE 53 [(2,.box 0 0),(5,.val (.slice tInt) ([id]++r1)),(6,.own 1 0 aa out),(7,.val tInt i),(8,.val (.slice aa) l),(9,.val tInt g)],mkH 2 [(0,.box [.val (.slice aa) j.1]),(1,.row aa 44 0)]⟩
def adP (f g:Nat):vH f (g+1)=B6 true (sm bE) (B0 f g f):=Φ
def adN (f g j:Nat):B0 f g (j+1)=B4 true (sm bE) (B0 f g j) (vH f g):=Φ
def adO (j:Nat){f:kJ bx}(g:vH FU j=mp5 bE f):∀n,B0 FU j n=mp7 bE (vG f n):=bo Φ λl _ h=>(adN FU j l).trans (by rw[h,g];funext _ _ _ _ _ _ _;simp only[B4,xr,ss])
def adQ:∀n,vH FU n=mp5 bE (B5 n):=bo Φ λf _ h=>(adP FU f).trans (by rw[adO f h FU];funext _ _ _ _ _;simp only[B6,xr,ss])
def aiq:ar prog 102 (adR):=evX func102 (S:=adS) aA (ag ⟨Zx,aiK,aoG⟩) (tys:=[(.slice aa)]) (λf x=>Nv true (sm bE) (vH f f) x.1 x.2.1) (λx=>by show _=Option.map bE _;rw[adQ FU];simp only[Nv,pz,xr,ss])
abbrev fx (C:Type):=Nat→Int→Υ→Option C
abbrev LV (C:Type):=Int→Nat→Υ→Option C
def jX (m:Bool)(K:bx→Option C)(g:fx C):LV C:=λi f out=>fz m tInt (w64 (i+1)) λj=>g f j out
def jW (m:Bool)(K:bx→Option C)(g:fx C):fx C:=λf i out=>let a:=List.getD out (0+Int.toNat i) (zero aa);cond (i<ni f) (ck (0≤i&&i<ni f) (cond (a.2.1=2) (ck (0≤i&&i<ni f) (fz m (.slice aa) (List.set out (0+Int.toNat i) (a.1,a.2.1,(0,false,[],0,()),())) (λj=>jX m K g i f j))) (jX m K g i f out))) (K ((List.take f out).drop 0))
def sh (m:Bool)(K:bx→Option C)(f:fx C)(l:Υ):Option C:=ck (lm (0+List.length l)) (fm m (0+List.length l) (λj=>fz m (.slice aa) (List.take 0 []++l) λg=>f j 0 g))
def k8:Nat→fx bx:=lp (λ_ _ _=>none) λf=>jW false some f
def eT (l:Υ):Option bx:=sh false some (k8 FU) l
def FX:Ent:=evE (.cons (.slice aa) .unit) bE (zero (.slice aa)) λx=>eT x.1
def sj:MS:=⟨0,[],[(3,.mut aa 44),(4,.dat tInt)]⟩
def FY:Par:=⟨Ou.tab,az [],λ_=>look [(4,sj)],λ_=>look [(3,sj)]⟩
def SR:KT:=bg Ou.tab [.tmp 2] [(.slice aa)]
def FZ:=h13 FY f101
def k7 (g n:Nat):fx AV:=λf i out=>aE 0 sj (FZ g 0 [1,1,0,1,0,0]) (aj 0 (aL 0 none (FZ g 0 [1,1,1]) SR)) n ⟨mkE 26 [(3,.msl 0 0 0 f),(4,.val tInt i)],mkH 1 [(0,.mrow aa 44 0 out)]⟩
def LW (f g:Nat):k7 f (g+1)=jW true (sm bE) (k7 f g):=Φ
def LX:∀n,k7 FU n=mp3 bE (k8 n):=bo Φ λf _ h=>(LW FU f).trans (by rw[h];funext _ _ _;simp only[jW,jX,ss])
def SQ:ar prog 101 (FX):=evX func101 (S:=FY) Ot (ag trivial) (tys:=[(.slice aa)]) (λf x=>sh true (sm bE) (k7 f f) x.1) (λx=>by show _=Option.map bE _;rw[LX FU];simp only[sh,eT,jX,ss])
abbrev dA (C:Type):=Int→(List Int)→(List Int)→(List Int)→Int→Bool→(List ah.den)→Int→Int→Int→Int→Υ→Option C
abbrev kV (C:Type):=Int→Int→Int→Int→Int→Int→Option C
abbrev ft (C:Type):=Υ→Option C
abbrev kU (C:Type):=Int→Int→Bool→Str→Int→Option C
def rC (m:Bool)(K:bx→Option C)(r:kV C)(p:dA C):dA C:=λP r2 r3 r4 U t33 J l j f g R=>cond t33 (cl m tInt (ba r2 f) (λr6=>cl m tInt (gc (J,()) r6) λr7=>nq m [2,0] (!r7=5) (cond (cond (r7=5) true (r7=0)) (cl m tInt (ba r4 f) (λr8=>r r8 2 l j f g)) (r r6 r7 l j f g)))) (cond (U=2) (fz m .bool (decide (U=2)) (λT=>p P r2 r3 r4 U T J l j f g R)) (fz m .bool (decide (U=3)) (λT=>p P r2 r3 r4 U T J l j f g R)))
def ow (m:Bool)(K:bx→Option C)(f:ft C):kV C:=λid l J r p g=>cl m .str (jO l g) λr9=>ck (lm (List.length ([]:List aa.den)+List.length ([(id,3,(0,false,r9,0,()),())]:List aa.den))) (fz m (.slice aa) ([]++[(id,3,(0,false,r9,0,()),())]) (λj=>f j))
def ou (m:Bool)(K:bx→Option C)(g:ft C)(P:kU C):dA C:=λf r2 r3 r4 T t63 l b1_0 b1_1 r j R=>let e:=ba r2 r;let d:=aD (l,()) 4;let c:=aD (l,()) 1;let b:=w64 (Int.tdiv j 2);let a:=ba r3 r;cond t63 (cl m tInt a (λr10=>cl m aJ (fX (l,()) r10 4) λr11=>cl m aJ (eQ r11 (l,()) j) λr12=>ck (lm (List.length ([]:List aa.den)+List.length ([(r10,4,r12,())]:List aa.den))) (fz m (.slice aa) ([]++[(r10,4,r12,())]) (λp=>g p)))) (cond (T=4) (cl m tInt e (λr13=>cl m tInt (mod2_ev j 3) λr14=>ck (!(3:Int)=0) (cl m .str (mv (w64 (Int.tdiv j 3))) (λr15=>ck (lm (List.length ([]:List aa.den)+List.length ([(r13,w64 ((8:Int)+r14),(0,false,r15,0,()),())]:List aa.den))) (fz m (.slice aa) ([]++[(r13,w64 ((8:Int)+r14),(0,false,r15,0,()),())]) (λp=>g p)))))) (cond (T=5) (cl m tInt (ba r4 r) (λr16=>cl m (.slice tInt) c λr17=>cl m tInt (ba r17 j) λr18=>ck (!(2:Int)=0) (cl m .str (sM b) (λr19=>ck (lm (List.length ([]:List aa.den)+List.length ([(r16,2,(0,false,r19,r18,()),())]:List aa.den))) (fz m (.slice aa) ([]++[(r16,2,(0,false,r19,r18,()),())]) (λp=>g p)))))) (cond (T=6) (cl m tInt a (λr20=>cl m tInt (ba r3 j) λr21=>cl m aJ (fX (l,()) r21 2) λr22=>ck (lm (List.length ([]:List aa.den)+List.length ([(r20,2,r22,())]:List aa.den))) (fz m (.slice aa) ([]++[(r20,2,r22,())]) (λp=>g p)))) (cond (T=7) (cl m tInt a (λr23=>cl m aJ (fX (l,()) r23 2) λr24=>cl m (.slice aa) (pz (R,()) r23) λr25=>cl m (.slice aa) (eT r25) λr26=>ck (lm (List.length ([]:List aa.den)+List.length r26)) (cl m aJ (fX (l,()) r23 4) (λr27=>cl m aJ (eQ r27 (l,()) j) λr28=>ck (lm (List.length ([]++r26)+List.length ([(w64 (f+1),1,(5,false,[],0,()),()),(w64 (f+1),2,r24,()),(w64 (f+1),4,r28,())]:List aa.den))) (fz m (.slice aa) ([]++r26++[(w64 (f+1),1,(5,false,[],0,()),()),(w64 (f+1),2,r24,()),(w64 (f+1),4,r28,())]) (λp=>g p)))))) (cond (T=8) (cl m (.slice tInt) c (λr29=>cl m tInt (ba r29 r) λr30=>cl m .str (sM j) λr31=>cl m .str (jO 2 j) λr32=>ck (!(2:Int)=0) (cl m aJ (eQ (0,false,[],0,()) (l,()) b) (λr33=>ck (lm (List.length ([]:List aa.den)+List.length ([(w64 (f+1),1,(2,false,[],0,()),()),(w64 (f+1),2,(0,false,r31,r30,()),()),(w64 (f+1),3,(0,false,r32,0,()),()),(w64 (f+1),8,(0,false,[10],0,()),()),(w64 (f+1),9,(0,false,[32],0,()),()),(w64 (f+2),1,(5,false,[],0,()),()),(w64 (f+2),2,(1,false,[],w64 (f+1),()),()),(w64 (f+2),4,(5,false,[],0,()),()),(w64 (f+3),1,(5,false,[],0,()),()),(w64 (f+3),2,(2,false,[],w64 (f+1),()),()),(w64 (f+3),4,r33,())]:List aa.den))) (fz m (.slice aa) ([]++[(w64 (f+1),1,(2,false,[],0,()),()),(w64 (f+1),2,(0,false,r31,r30,()),()),(w64 (f+1),3,(0,false,r32,0,()),()),(w64 (f+1),8,(0,false,[10],0,()),()),(w64 (f+1),9,(0,false,[32],0,()),()),(w64 (f+2),1,(5,false,[],0,()),()),(w64 (f+2),2,(1,false,[],w64 (f+1),()),()),(w64 (f+2),4,(5,false,[],0,()),()),(w64 (f+3),1,(5,false,[],0,()),()),(w64 (f+3),2,(2,false,[],w64 (f+1),()),()),(w64 (f+3),4,r33,())]) (λp=>g p)))))) (cond (T=9) (cl m (.slice tInt) d (λr34=>ck (lm (r4.length+r34.length)) (cl m tInt (ba (r4++r34) r) (λr35=>cl m (.slice aa) (pz (R,()) r35) λr36=>cl m (.slice aa) (eT r36) λr37=>g r37)))) (cond (T=10) (cl m (.slice tInt) d (λr38=>cl m tInt (ba r38 r) λU=>cl m aJ (fX (l,()) U 2) λJ=>cond (!J.2.2.2.1=0) (cl m .str (sM j) (λr41=>P U J.1 J.2.1 r41 J.2.2.2.1)) (P U J.1 J.2.1 J.2.2.1 J.2.2.2.1))) (cond (T=11) (cl m tInt e (λr42=>cl m (.slice aa) (pz (R,()) r42) λr43=>g r43)) (g [])))))))))
def oq (m:Bool)(K:bx→Option C):ft C:=λw=>cl m (.slice aa) (mC w) λf=>K f
def ot (m:Bool)(K:bx→Option C)(p:ft C):kU C:=λr l j g f=>ck (lm (List.length ([]:List aa.den)+List.length ([(r,2,(l,j,g,f,()),())]:List aa.den))) (fz m (.slice aa) ([]++[(r,2,(l,j,g,f,()),())]) (λJ=>p J))
def vM (m:Bool)(K:bx→Option C)(j:dA C)(s:ai.den)(d:aX.den)(g:Int):Option C:=ce m aO (stG s) (eX s) λr1=>cl m (.slice tInt) (aD s 0) λr2=>cl m (.slice tInt) (aD s 5) λU=>cl m (.slice tInt) (aD s 2) λT=>cl m tInt (mod2_ev d.1 13) λR=>cond (R=0) (fz m .bool (decide (R=0)) (λP=>fz m (.slice ah) s.1 λJ=>fz m tInt d.1 λr=>fz m tInt d.2.1 λp=>fz m tInt d.2.2.1 λl=>fz m tInt d.2.2.2.1 λf=>j g r2 U T R P J r p l f r1.1)) (fz m .bool (decide (R=1)) (λP=>fz m (.slice ah) s.1 λJ=>fz m tInt d.1 λr=>fz m tInt d.2.1 λp=>fz m tInt d.2.2.1 λl=>fz m tInt d.2.2.2.1 λf=>j g r2 U T R P J r p l f r1.1))
def dJ:ft bx:=oq false some
def dK:kV bx:=ow false some dJ
def iu:kU bx:=ot false some dJ
def iv:dA bx:=ou false some dJ iu
def oo:dA bx:=rC false some dK iv
def mc (s:ai.den)(d:aX.den)(f:Int):Option bx:=vM false some oo s d f
def Jb:Ent:=evE (.cons ai (.cons aX (.cons tInt .unit))) bE (zero (.slice aa)) λx=>mc x.1 x.2.1 x.2.2.1
def NN:MS:=⟨6,[(0,[.dat (.slice ah)]),(1,[.dat tInt,.dat tInt,.dat tInt,.dat tInt]),(5,[.dat (.slice aa)])],[(2,.dat tInt),(3,.keep),(4,.keep),(7,.keep),(8,.dat (.slice tInt)),(9,.dat (.slice tInt)),(10,.own tInt 3),(11,.own aa 44),(32,.dat tInt),(33,.dat .bool)]⟩
def Lj:MS:=⟨2,[(0,[.drop]),(1,[.dat tInt,.dat tInt,.dat tInt,.dat tInt])],[(4,.keep),(11,.own aa 44),(12,.dat tInt),(13,.dat tInt)]⟩
def Li:MS:=⟨6,[(0,[.dat (.slice ah)]),(1,[.dat tInt,.dat tInt,.dat tInt,.dat tInt]),(5,[.dat (.slice aa)])],[(2,.dat tInt),(3,.keep),(4,.keep),(7,.keep),(8,.dat (.slice tInt)),(9,.dat (.slice tInt)),(10,.own tInt 3),(11,.own aa 44),(32,.dat tInt),(63,.dat .bool)]⟩
def iq:MS:=⟨0,[],[(11,.dat (.slice aa))]⟩
def Lh:MS:=⟨32,[(0,[.drop]),(1,[.drop,.drop,.drop,.drop]),(5,[.drop]),(31,[.dat tInt,.dat .bool,.dat .str,.dat tInt])],[(11,.own aa 44),(20,.dat tInt),(21,.keep)]⟩
def Jc:Par:=⟨bB.tab,Fv [(94,GV),(18,sE),(60,An),(95,AM),(96,Lx),(98,Vy),(97,JD),(99,Ju),(100,abJ),(102,adR),(101,FX),(103,JA)] [] [] [] [(59,kG)],λ_=>look [(9,NN),(14,Lj),(17,Li),(45,iq),(42,Lh)],λ_=>look []⟩
def pY:KT:=bg bB.tab [.tmp 6] [(.slice aa)]
def fw:=h13 Jc f55
def tR (f:Nat):dA AV:=λg r2 U T R P J C r p l j=>fw f 0 [1,1,1,1,1,1,0,1,0,1] ⟨mkE 290 [(2,.val tInt g),(3,.box 0 0),(4,.box 1 0),(7,.box 5 0),(8,.val (.slice tInt) r2),(9,.val (.slice tInt) U),(10,.own 6 0 tInt T),(11,.own 7 0 aa []),(32,.val tInt R),(33,.val .bool P)],mkH 8 [(0,.box [.val (.slice ah) J]),(1,.box [.val tInt C,.val tInt r,.val tInt p,.val tInt l]),(5,.box [.val (.slice aa) j]),(6,.row tInt 3 0),(7,.row aa 44 0)]⟩ (aj 0 (aL 0 (some iq) (fw f 0 [1,1,1,1,1,1,1]) pY))
def rG (f:Nat):kV AV:=λid r p l j g=>fw f 0 [1,1,1,1,1,1,0,1,0,1,0,1,1,1] ⟨mkE 290 [(4,.box 1 0),(11,.own 2 0 aa []),(12,.val tInt id),(13,.val tInt r)],mkH 3 [(0,.box [.unk]),(1,.box [.val tInt p,.val tInt l,.val tInt j,.val tInt g]),(2,.row aa 44 0)]⟩ (aj 0 (aL 0 (some iq) (fw f 0 [1,1,1,1,1,1,1]) pY))
def rF (f:Nat):dA AV:=λg r2 U T R P J C r p l j=>fw f 0 [1,1,1,1,1,1,0,1,0,1,1,1] ⟨mkE 290 [(2,.val tInt g),(3,.box 0 0),(4,.box 1 0),(7,.box 5 0),(8,.val (.slice tInt) r2),(9,.val (.slice tInt) U),(10,.own 6 0 tInt T),(11,.own 7 0 aa []),(32,.val tInt R),(63,.val .bool P)],mkH 8 [(0,.box [.val (.slice ah) J]),(1,.box [.val tInt C,.val tInt r,.val tInt p,.val tInt l]),(5,.box [.val (.slice aa) j]),(6,.row tInt 3 0),(7,.row aa 44 0)]⟩ (aj 0 (aL 0 (some iq) (fw f 0 [1,1,1,1,1,1,1]) pY))
def ir (f:Nat):ft AV:=λw=>fw f 0 [1,1,1,1,1,1,1] ⟨mkE 290 [(11,.val (.slice aa) w)],mkH 0 []⟩ pY
def rE (f:Nat):kU AV:=λr p l j g=>fw f 0 [1,1,1,1,1,1,0,1,0,1,1,1,1,1,1,1,1,1,1,1,1,1,1,1,1,1,0,1,1,1] ⟨mkE 290 [(11,.own 32 0 aa []),(20,.val tInt r),(21,.box 31 0)],mkH 33 [(0,.box [.unk]),(1,.box [.unk,.unk,.unk,.unk]),(5,.box [.unk]),(6,.row tInt 3 0),(7,.row aa 44 1),(23,.row tInt 3 1),(31,.box [.val tInt p,.val .bool l,.val .str j,.val tInt g]),(32,.row aa 44 0)]⟩ (aj 0 (aL 0 (some iq) (fw f 0 [1,1,1,1,1,1,1]) pY))
def NO (f:Nat):tR f=rC true (sm bE) (rG f) (rF f):=Φ
def Lp (f:Nat):rG f=ow true (sm bE) (ir f):=Φ
def Ln (f:Nat):rF f=ou true (sm bE) (ir f) (rE f):=Φ
def Lk (f:Nat):ir f=oq true (sm bE):=Φ
def Ll (f:Nat):rE f=ot true (sm bE) (ir f):=Φ
def rD:ir FU=mp1 bE (dJ):=(Lk FU).trans (by funext _;simp only[oq,dJ,ss])
def Lr:rG FU=mp6 bE (dK):=(Lp FU).trans (by rw[rD];funext _ _ _ _ _ _;simp only[ow,dK,ss])
def Lm:rE FU=mp5 bE (iu):=(Ll FU).trans (by rw[rD];funext _ _ _ _ _;simp only[ot,iu,ss])
def Lo:rF FU=ahz bE (iv):=(Ln FU).trans (by rw[rD,Lm];funext _ _ _ _ _ _ _ _ _ _ _ _;simp only[ou,iv,ss])
def NP:tR FU=ahz bE (oo):=(NO FU).trans (by rw[Lr,Lo];funext _ _ _ _ _ _ _ _ _ _ _ _;simp only[rC,oo,ss])
def W9:ar prog 55 (Jb):=evX func55 (S:=Jc) aA (v8 ⟨abr,mod2_x,Eu,EE,U4,aen,XG,Xn,ahF,aiq,SQ,XC,aoG⟩ trivial trivial trivial ⟨pm,aoG⟩) (tys:=[(.slice aa)]) (λf x=>vM true (sm bE) (tR f) x.1 x.2.1 x.2.2.1) (λx=>by show _=Option.map bE _;rw[NP];simp only[vM,mc,ss])
abbrev du (C:Type):=Λ→Int→Int→Int→Option C
abbrev gV (C:Type):=Λ→Int→Int→Int→Int→Option C
def qQ (m:Bool)(K:Int→Option C)(g:gV C):du C:=λl f i x=>g l f i x 0
def uM (m:Bool)(K:Int→Option C)(g:gV C):du C:=λl f x i=>let b:=bd i l.length;let a:=ix tCommit l i;cond (i<il l) (ck b (ck (0≤(20:Int)) (cond (aay .i64 a.1 20=f) (ck b (fz m tInt (uQ x a.1) (λj=>qQ m K g l f i j))) (qQ m K g l f i x)))) (K x)
def qP (m:Bool)(K:Int→Option C)(g:gV C):gV C:=λl f i p x=>fz m tInt (w64 (p+1)) λj=>g l f i x j
def uN (m:Bool)(K:Int→Option C)(g:du C):du C:=λl f i x=>fz m tInt (w64 (i+1)) λj=>g l f x j
def uL (m:Bool)(K:Int→Option C)(g:gV C)(p:du C):gV C:=λl f i x j=>let b:=bd i l.length;let a:=ix tCommit l i;let d:=ix aa a.2.2.2.2.1 j;let c:=bd j a.2.2.2.2.1.length;ck b (cond (j<il a.2.2.2.2.1) (ck b (ck c (ck (0≤(20:Int)) (cond (aay .i64 d.1 20=f) (ck b (ck c (fz m tInt (uQ x d.1) (λr=>qP m K g l f i j r)))) (qP m K g l f i j x))))) (uN m K p l f i x))
def EC (m:Bool)(K:Int→Option C)(g:du C)(l:Λ)(f:Int):Option C:=ck (0≤(20:Int)) (fz m tInt (aaz .i64 f 20) (λj=>g l f j 0))
def lQ (g:du Int):Nat→gV Int:=lp (λ_ _ _ _ _=>none) λf=>uL false some f g
def qO:Nat→du Int:=lp (λ_ _ _ _=>none) λf=>uM false some (lQ f FU)
def qR (l:Λ)(f:Int):Option Int:=EC false some (qO FU) l f
def VO:Ent:=evE (.cons (.slice tCommit) (.cons tInt .unit)) ax (zero tInt) λx=>qR x.1 x.2.1
def lP:MS:=⟨0,[],[(0,.dat (.slice tCommit)),(1,.dat tInt),(5,.dat tInt),(6,.dat tInt)]⟩
def Cy:MS:=⟨0,[],[(0,.dat (.slice tCommit)),(1,.dat tInt),(5,.dat tInt),(6,.dat tInt),(7,.dat tInt)]⟩
def VQ:Par:=⟨bB.tab,az [],λ_=>look [(7,lP),(9,Cy),(4,lP)],λ_=>look [(3,lP),(8,Cy)]⟩
def wI:=h13 VQ f54
def qN (f n:Nat):du AV:=λl g x i=>aE 0 lP (wI f 0 [1,1,0,1,0,0]) (aj 0 (aL 0 none (wI f 0 [1,1,1]) CM)) n ⟨mkE 65 [(0,.val (.slice tCommit) l),(1,.val tInt g),(5,.val tInt x),(6,.val tInt i)],mkH 0 []⟩
def wH (f p n:Nat):gV AV:=λl g i x j=>aE 0 Cy (wI f 0 [1,1,0,1,0,0,1,0,0,1,1,0,0]) (aj 2 (aj 1 (aL 0 (some lP) (wI f 0 [1,1,0,1,0,0,1,1]) (kLp 0 lP (wI f 0 [1,1,0,1,0,0]) (aj 0 (aL 0 none (wI f 0 [1,1,1]) CM)) p)))) n ⟨mkE 65 [(0,.val (.slice tCommit) l),(1,.val tInt g),(5,.val tInt x),(6,.val tInt i),(7,.val tInt j)],mkH 0 []⟩
def Yo (f g:Nat):qN f (g+1)=uM true (sm ax) (wH f g f):=Φ
def Ym (f g j:Nat):wH f g (j+1)=uL true (sm ax) (wH f g j) (qN f g):=Φ
def Yn (j:Nat){f:du Int}(g:qN FU j=mp4 ax f):∀n,wH FU j n=mp5 ax (lQ f n):=bo Φ λl _ h=>(Ym FU j l).trans (by rw[h,g];funext _ _ _ _ _;simp only[uL,uN,qQ,qP,ss])
def Yp:∀n,qN FU n=mp4 ax (qO n):=bo Φ λf _ h=>(Yo FU f).trans (by rw[Yn f h FU];funext _ _ _ _;simp only[uM,uN,qQ,qP,ss])
def aeZ:ar prog 54 (VO):=evX func54 (S:=VQ) aA (ag trivial) (tys:=[tInt]) (λf x=>EC true (sm ax) (qN f f) x.1 x.2.1) (λx=>by show _=Option.map ax _;rw[Yp FU];simp only[EC,qR,uN,qQ,qP,ss])
abbrev br:=Λ
abbrev kw (C:Type):=Λ→tCommit.den→Int→Option C
def nl (m:Bool)(K:br→Option C)(g:kw C):kw C:=λl c f=>let d:=Int.toNat f;let b:=List.take (List.length l) l;let a:=List.take d l;nm m 2 (f<il l) (bd f l.length) (nq m [2,2,2,3,1] (f<il l) (cond (cond (f<il l) ((ix tCommit l f).1<c.1) false) (fz m tInt (w64 (f+1)) (λj=>g l c j)) (ck (0≤f&&f≤(l.length:Int)) (ck (lm (List.length ([]:List tCommit.den)+List.length (a.drop 0))) (ck (lm (List.length ([]++a.drop 0)+List.length ([c]:List tCommit.den))) (ck (0≤f&&f≤(l.length:Int)) (ck (lm (List.length ([]++a.drop 0++[c])+List.length (b.drop d))) (K ([]++a.drop 0++[c]++b.drop d)))))))))
def wT (m:Bool)(K:br→Option C)(f:kw C)(l:Λ)(c:tCommit.den):Option C:=f l c 0
def pg:Nat→kw br:=lp (λ_ _ _=>none) λf=>nl false some f
def np (l:Λ)(c:tCommit.den):Option br:=wT false some (pg FU) l c
def bi (r:br):AV :=.val (.slice tCommit) r
def Km:Ent:=evE (.cons (.slice tCommit) (.cons tCommit .unit)) bi (zero (.slice tCommit)) λx=>np x.1 x.2.1
def DN:MS:=⟨1,[(0,[.dat tInt,.dat (.slice tInt),.dat (.slice tInt),.dat .str,.dat (.slice aa)])],[(0,.dat (.slice tCommit)),(3,.keep),(5,.dat tInt)]⟩
def Kn:Par:=⟨bB.tab,az [],λ_=>look [],λ_=>look [(2,DN)]⟩
def Kq:KT:=bg bB.tab [.tmp 4] [(.slice tCommit)]
def Kr:=h13 Kn f27
def pf (f n:Nat):kw AV:=λl c g=>aE 0 DN (Kr f 0 [1,1,0,0,0]) (aj 0 (aL 0 none (Kr f 0 [1,1,1]) Kq)) n ⟨mkE 37 [(0,.val (.slice tCommit) l),(3,.box 0 0),(5,.val tInt g)],mkH 1 [(0,.box [.val tInt c.1,.val (.slice tInt) c.2.1,.val (.slice tInt) c.2.2.1,.val .str c.2.2.2.1,.val (.slice aa) c.2.2.2.2.1])]⟩
def Qs (f g:Nat):pf f (g+1)=nl true (sm bi) (pf f g):=Φ
def Qt:∀n,pf FU n=mp3 bi (pg n):=bo Φ λf _ h=>(Qs FU f).trans (by rw[h];funext _ _ _;simp only[nl,ss])
def YR:ar prog 27 (Km):=evX func27 (S:=Kn) aA (ag trivial) (tys:=[(.slice tCommit)]) (λf x=>wT true (sm bi) (pf f f) x.1 x.2.1) (λx=>by show _=Option.map bi _;rw[Qt FU];simp only[wT,np,ss])
abbrev Rs (C:Type):=Λ→Int→aX.den→(List Int)→Option C
abbrev Nd (C:Type):=ai.den→Int→(List Int)→(List Int)→Str→Υ→Option C
def kH (m:Bool)(K:iT→Option C):Nd C:=λJ p l j g f=>cl m tInt (nD J (p,l,j,g,f,())) λr=>K ((p,l,j,g,f,()),decide (r=0),())
def nQ (m:Bool)(K:iT→Option C):Rs C:=λl r1 d f=>cl m (.slice tInt) (uc l f) λp=>cl m ai (rz l p) λP=>cl m tInt (qR l (w64 ((1:Int)+r1))) λR=>cl m tInt (mod2_ev d.1 13) λr8=>cond (r8=12) (cl m tInt (mod2_ev d.2.2.1 (il l)) (λr9=>let a:=ix tCommit l r9;ck (bd r9 l.length) (fz m tInt (w64 (R+1)) (λj=>fz m (.slice tInt) [a.1] λJ=>fz m .str [100,101,101,100] λg=>fz m (.slice aa) a.2.2.2.2.1 λr=>kH m K P j p J g r)))) (cl m (.slice aa) (mc P d R) (λr10=>ck (lm (List.length ([]:List tCommit.den)+List.length l)) (ck (lm (List.length ([]++l)+List.length ([(0,p,[],[100,101,101,100],r10,())]:List tCommit.den))) (cl m tInt (qR ([]++l++[(0,p,[],[100,101,101,100],r10,())]) (w64 ((1:Int)+r1))) (λr11=>fz m tInt (w64 (r11+1)) λj=>fz m .str [100,101,101,100] λg=>kH m K P j p [] g r10)))))
def xg (m:Bool)(K:iT→Option C)(l:Λ)(f:(List Int))(d:aX.den):Option C:=cl m tInt (mod2_ev d.2.1 3) λr1=>ck (!(3:Int)=0) (cl m tInt (mod2_ev (w64 (Int.tdiv d.2.1 3)) 3) (λr=>let a:=uQ (w64 (w64 (il f-1)-r)) 0;ck (bd a f.length) (ck (!(9:Int)=0) (cl m tInt (mod2_ev (w64 (Int.tdiv d.2.1 9)) 3) (λp=>cond (p=0) (ck (!(27:Int)=0) (cl m tInt (mod2_ev (w64 (Int.tdiv d.2.1 27)) (il f)) (λj=>ck (bd j f.length) (ck (lm (List.length ([ix tInt f a]:List Int)+List.length ([ix tInt f j]:List Int))) (fz m (.slice tInt) ([ix tInt f a]++[ix tInt f j]) (λg=>nQ m K l r1 d g)))))) (fz m (.slice tInt) [ix tInt f a] (λg=>nQ m K l r1 d g)))))))
def nR (l:Λ)(f:(List Int))(d:aX.den):Option iT:=xg false some l f d
def KY:Ent:=evE (.cons (.slice tCommit) (.cons (.slice tInt) (.cons aX .unit))) kD (zero (.cons tCommit (.cons .bool .unit))) λx=>nR x.1 x.2.1 x.2.2.1
def Ru:MS:=⟨2,[(0,[.dat tInt,.dat tInt,.dat tInt,.dat tInt]),(1,[.dat tInt,.dat (.slice tInt),.dat (.slice tInt),.dat .str,.dat (.slice aa)])],[(0,.dat (.slice tCommit)),(5,.keep),(6,.keep),(8,.dat tInt),(10,.own tInt 3)]⟩
def Nf:MS:=⟨14,[(0,[.drop,.drop,.drop,.drop]),(1,[.dat tInt,.dat (.slice tInt),.dat (.slice tInt),.dat .str,.dat (.slice aa)]),(7,[.dat tInt,.dat (.slice tInt),.dat (.slice tInt),.dat .str,.dat (.slice aa)]),(13,[.dat (.slice ah)])],[(6,.keep),(11,.keep),(12,.keep)]⟩
def Zq:Par:=⟨bB.tab,az [(18,sE),(52,U8),(53,Nm),(54,VO),(55,Jb),(56,Kz)],λ_=>look [(6,Ru),(14,Nf)],λ_=>look []⟩
def Zp:ar prog 26 (KY):=evX func26 (S:=Zq) aA (ag ⟨mod2_x,ad2,WO,aeZ,W9,Y4,aoG⟩) (tys:=[tCommit,.bool]) (λf x=>xg true (sm kD) x.1 x.2.1 x.2.2.1) (λx=>by show _=Option.map kD _;simp only[xg,nR,kH,nQ,ss])
abbrev fE (C:Type):=Lb'→Λ→(List Int)→Int→Option C
abbrev MR (C:Type):=Lb'→Int→Λ→(List Int)→Option C
def ky (m:Bool)(K:br→Option C)(g:fE C):MR C:=λl i out f=>fz m tInt (w64 (i+1)) λj=>g l out f j
def kx (m:Bool)(K:br→Option C)(g:fE C):fE C:=λl out f i=>nq m [2,1] (i<il l) (cond (cond (i<il l) (i<9) false) (ck (bd i l.length) (cl m (.cons tCommit (.cons .bool .unit)) (nR out f (ix aX l i)) (λj=>cond j.2.1 (cl m (.slice tCommit) (np out j.1) (λr=>ck (lm (List.length f+List.length ([j.1.1]:List Int))) (fz m (.slice tInt) (f++[j.1.1]) (λp=>ky m K g l i r p)))) (ky m K g l i out f)))) (K out))
def sU (m:Bool)(K:br→Option C)(f:fE C)(first:Int)(l:Lb'):Option C:=ce m tCommit true (firstF first) λr1=>fz m (.slice tCommit) [r1] λj=>fz m (.slice tInt) [r1.1] λg=>f l j g 0
def lu:Nat→fE br:=lp (λ_ _ _ _=>none) λf=>kx false some f
def kz (first:Int)(l:Lb'):Option br:=sU false some (lu FU) first l
def Hp:Ent:=evE (.cons tInt (.cons (.slice aX) .unit)) bi (zero (.slice tCommit)) λx=>kz x.1 x.2.1
def sV:MS:=⟨0,[],[(1,.dat (.slice aX)),(6,.dat (.slice tCommit)),(7,.own tInt 3),(8,.dat tInt)]⟩
def Hq:Par:=⟨bB.tab,az [(25,QJ),(26,KY),(27,Km)],λ_=>look [(6,sV)],λ_=>look [(5,sV)]⟩
def Hr:=h13 Hq f7
def lr (f n:Nat):fE AV:=λl out g i=>aE 0 sV (Hr f 0 [1,1,1,1,0,1,0,0]) (aj 0 (aL 0 none (Hr f 0 [1,1,1,1,1]) Kq)) n ⟨mkE 48 [(1,.val (.slice aX) l),(6,.val (.slice tCommit) out),(7,.own 0 0 tInt g),(8,.val tInt i)],mkH 1 [(0,.row tInt 3 0)]⟩
def MT (f g:Nat):lr f (g+1)=kx true (sm bi) (lr f g):=Φ
def MU:∀n,lr FU n=mp4 bi (lu n):=bo Φ λf _ h=>(MT FU f).trans (by rw[h];funext _ _ _ _;simp only[kx,ky,ss])
def Ub:ar prog 7 (Hp):=evX func7 (S:=Hq) aA (ag ⟨ab7,Zp,YR,aoG⟩) (tys:=[(.slice tCommit)]) (λf x=>sU true (sm bi) (lr f f) x.1 x.2.1) (λx=>by show _=Option.map bi _;rw[MU FU];simp only[sU,kz,ky,ss])
def Bb (m:Bool)(K:(List Int)→Option C)(l:Λ):Option C:=cl m (.slice tInt) (rk l) λr1=>K r1
def wX (l:Λ):Option (List Int):=Bb false some l
def QB:Ent:=evE (.cons (.slice tCommit) .unit) aq (zero (.slice tInt)) λx=>wX x.1
def abW:Par:=⟨bB.tab,az [(151,Qz)],λ_=>look [],λ_=>look []⟩
def abV:ar prog 107 (QB):=evX func107 (S:=abW) aA (ag ⟨abU,aoG⟩) (tys:=[(.slice tInt)]) (λf x=>Bb true (sm aq) x.1) (λx=>by show _=Option.map aq _;simp only[Bb,wX,ss])
def WS (m:Bool)(K:ai.den→Option C)(l:Λ):Option C:=cl m (.slice tInt) (wX l) λr1=>cl m ai (rz l r1) λf=>K f
def C4 (l:Λ):Option ai.den:=WS false some l
def ady:Ent:=evE (.cons (.slice tCommit) .unit) bh (zero ai) λx=>C4 x.1
def ai2:Par:=⟨bB.tab,az [(107,QB),(53,Nm)],λ_=>look [],λ_=>look []⟩
def agL:ar prog 57 (ady):=evX func57 (S:=ai2) aA (ag ⟨abV,WO,aoG⟩) (tys:=[ai]) (λf x=>WS true (sm bh) x.1) (λx=>by show _=Option.map bh _;simp only[WS,C4,ss])
end
