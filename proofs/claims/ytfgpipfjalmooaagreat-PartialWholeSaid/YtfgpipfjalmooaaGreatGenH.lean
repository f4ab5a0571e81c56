/- The equations of the program's functions. -/
import Derived.Test.YtfgpipfjalmooaaGreatChainW
import Derived.Test.YtfgpipfjalmooaaGreatFirG
open Option renaming some→ä,none→ö
open Bool renaming true→ü,false→ß
set_option linter.all false
noncomputable section
namespace Go.Proofs.YtfgpipfjalmooaaGreat
namespace Abs
open Go Tryz
section
def bE:TabL:={
 ty:=[(3,tInt),(4,.bool),(5,(.int .u8)),(9,.str),(22,(.slice be)),(23,(.slice tInt)),(24,(.slice tCommit)),(36,(.slice aa)),(38,tCommit),(42,aM),(44,aa),(45,tInt),(60,be),(87,aP),(94,(.slice ah)),(96,ai),(120,(.slice (.slice tInt))),(144,(.slice eG)),(146,ah),(168,eG),(179,(.slice (.int .u8)))],
 cells:=[(3,1),(4,1),(5,1),(9,1),(22,1),(23,1),(24,1),(36,1),(38,5),(42,4),(44,6),(45,1),(60,4),(87,1),(94,1),(96,1),(120,1),(144,1),(146,3),(168,5),(179,1)],
 si:=[((38,0),0),((38,1),1),((38,2),2),((38,3),3),((38,4),4),((42,0),0),((42,1),1),((42,2),2),((42,3),3),((44,0),0),((44,1),1),((44,2),2),((60,0),0),((60,1),1),((60,2),2),((60,3),3),((87,0),0),((96,0),0),((146,0),0),((146,1),1),((146,2),2),((168,0),0),((168,1),1)],
 one:=[],
 elem:=[(22,60),(23,3),(24,38),(36,44),(94,146),(120,23),(144,168),(179,5)] }
def Nq:TabL:={
 ty:=[(3,tInt),(4,.bool),(5,(.int .u8)),(9,.str),(22,(.slice be)),(23,(.slice tInt)),(24,(.slice tCommit)),(36,(.slice aa)),(38,tCommit),(42,aM),(44,aa),(45,tInt),(60,be),(87,aP),(94,(.slice ah)),(96,ai),(120,(.slice (.slice tInt))),(144,(.slice eG)),(146,ah),(168,eG),(179,(.slice (.int .u8)))],
 cells:=[(3,1),(4,1),(5,1),(9,1),(22,1),(23,1),(24,1),(36,1),(38,5),(42,4),(44,6),(45,1),(60,4),(87,1),(94,1),(96,1),(120,1),(144,1),(146,3),(168,5),(179,1)],
 si:=[((38,0),0),((38,1),1),((38,2),2),((38,3),3),((38,4),4),((42,0),0),((42,1),1),((42,2),2),((42,3),3),((44,0),0),((44,1),1),((44,2),2),((60,0),0),((60,1),1),((60,2),2),((60,3),3),((87,0),0),((96,0),0),((146,0),0),((146,1),1),((146,2),2),((168,0),0),((168,1),1)],
 one:=[],
 inp:=[22,23,24,36,94,120,144,179],
 elem:=[(22,60),(23,3),(24,38),(36,44),(94,146),(120,23),(144,168),(179,5)] }
def ax:TabOk prog bE.tab:=TabL.ok Φ
def Np:TabOk prog Nq.tab:=TabL.ok Φ
variable{C:Type}
def qM (m:Bool)(K:Bool→Option C)(id:Int):Option C:=let a:Bool:=cond (id>1048576) (id<34603008) ß;nq m [2,1] (id>1048576) (nm m 1 a (!(1048576:Int)=0) (nq m [2,1] a (K (cond a (!Int.tmod id 1048576=0) ß))))
def bW (id:Int):Option Bool:=qM ß ä id
def eE:Ent:=evE (.cons tInt .unit) ae (zero .bool) λx=>bW x.1
def qN:Par:=⟨bE.tab,az [],λ_=>look [],λ_=>look []⟩
def fW:aj prog 146 (eE):=evX func146 (S:=qN) ax (ag trivial) (tys:=[.bool]) (λf x=>qM ü (sm ae) x.1) (λx=>by show _=Option.map ae _;simp only[qM,bW,ss])
abbrev jb (C:Type):=Str→Int→Option C
def lz (m:Bool)(K:Bool→Option C)(g:jb C):jb C:=λf i=>let b:Bool:=!ixs f i<97;let a:=bd i f.length;cond (i<il f) (ck a (nm m 2 b a (nq m [2,0] b (cond (cond (ixs f i<97) ü (ixs f i>122)) (K ß) (fz m tInt (w64 (i+1)) (λj=>g f j)))))) (K ü)
def uM (m:Bool)(K:Bool→Option C)(g:jb C)(f:Str):Option C:=let c:Bool:=il f>60;let b:=w64 (il f-1);let a:Bool:=!cond (il f<1) ü c;nq m [2,2,0] (!il f<1) (nq m [2,2] a (nm m 2 a (bd b f.length) (nq m [2,0] a (cond (cond (cond (il f<1) ü c) ü (ixs f b=97)) (K ß) (g f 0)))))
def nv:Nat→jb Bool:=lp (λ_ _=>ö) λf=>lz ß ä f
def lC (f:Str):Option Bool:=uM ß ä (nv FU) f
def H9:Ent:=evE (.cons .str .unit) ae (zero .bool) λx=>lC x.1
def BT:MS:=⟨0,[],[(0,.bb .str),(3,.bb tInt)]⟩
def Ia:Par:=⟨bE.tab,az [],λ_=>look [],λ_=>look [(4,BT)]⟩
def iF:KT:=bq bE.tab [.tmp 2] [.bool]
def h12 (S:Par)(f:Func)(g j:Nat)(p:List Nat):Sg→KT→Option AV:=xc (bo fi0 hs0 g 0) S j g (sub (f.body.getD .skip) p)
def Ib:=h12 Ia f234
def nu (f n:Nat):jb AV:=λg i=>aN 0 BT (Ib f 0 [1,1,0,1,0,0]) (ak 0 (aW 0 ö (Ib f 0 [1,1,1]) iF)) n ⟨mkE 36 [(0,.val .str g),(3,.val tInt i)],mkH 0 []⟩
def M7 (f g:Nat):nu f (g+1)=lz ü (sm ae) (nu f g):=Φ
def M8:∀n,nu FU n=mp2 ae (nv n):=cq Φ λf _ h=>(M7 FU f).trans (by rw[h];funext _ _;simp only[lz,ss])
def VW:aj prog 234 (H9):=evX func234 (S:=Ia) ax (ag trivial) (tys:=[.bool]) (λf x=>uM ü (sm ae) (nu f f) x.1) (λx=>by show _=Option.map ae _;rw[M8 FU];simp only[uM,lC,ss])
def nK (m:Bool)(K:Bool→Option C)(a:aa.den)(b:aa.den):Option C:=nq m [2,2,3,1] (a.1=b.1) (K (cond (a.1=b.1) (decide (a.2.1=b.2.1)) ß))
def fk (a:aa.den)(b:aa.den):Option Bool:=nK ß ä a b
def Cf:Ent:=evE (.cons aa (.cons aa .unit)) ae (zero .bool) λx=>fk x.1 x.2.1
def Oe:aj prog 323 (Cf):=evX func323 (S:=qN) ax (ag trivial) (tys:=[.bool]) (λf x=>nK ü (sm ae) x.1 x.2.1) (λx=>by show _=Option.map ae _;simp only[nK,fk,ss])
def Ay (m:Bool)(K:Bool→Option C)(a:aa.den)(b:aa.den):Option C:=cond (!a.1=b.1) (K (decide (a.1<b.1))) (K (decide (a.2.1<b.2.1)))
def iR (a:aa.den)(b:aa.den):Option Bool:=Ay ß ä a b
def Hi:Ent:=evE (.cons aa (.cons aa .unit)) ae (zero .bool) λx=>iR x.1 x.2.1
def QM:aj prog 322 (Hi):=evX func322 (S:=qN) ax (ag trivial) (tys:=[.bool]) (λf x=>Ay ü (sm ae) x.1 x.2.1) (λx=>by show _=Option.map ae _;simp only[Ay,iR,ss])
abbrev bw:=Υ
abbrev vw (C:Type):=Υ→Int→Υ→Int→Option C
abbrev aeF (C:Type):=Υ→Int→Int→Υ→Option C
def Fy (m:Bool)(K:bw→Option C)(f:vw C):aeF C:=λl id i out=>fz m tInt (w64 (i+1)) λg=>f l id out g
def Fx (m:Bool)(K:bw→Option C)(f:vw C):vw C:=λl id out i=>let a:=bd i l.length;cond (i<il l) (ck a (cond ((ix aa l i).1=id) (ck a (ck (lm (List.length out+List.length ([ix aa l i]:List aa.den))) (fz m (.slice aa) (out++[ix aa l i]) (λg=>Fy m K f l id i g)))) (Fy m K f l id i out))) (K out)
def Ux (m:Bool)(K:bw→Option C)(f:vw C)(l:Υ)(id:Int):Option C:=f l id [] 0
def Di:Nat→vw bw:=lp (λ_ _ _ _=>ö) λf=>Fx ß ä f
def FA (l:Υ)(id:Int):Option bw:=Ux ß ä (Di FU) l id
def bG (r:bw):AV :=.val (.slice aa) r
def agB:Ent:=evE (.cons (.slice aa) (.cons tInt .unit)) bG (zero (.slice aa)) λx=>FA x.1 x.2.1
def Lo:MS:=⟨0,[],[(0,.bb (.slice aa)),(1,.bb tInt),(5,.own aa 44),(6,.bb tInt)]⟩
def agC:Par:=⟨bE.tab,az [],λ_=>look [(4,Lo)],λ_=>look [(3,Lo)]⟩
def aaG:KT:=bq bE.tab [.tmp 4] [(.slice aa)]
def agD:=h12 agC f144
def Dh (f n:Nat):vw AV:=λl id out i=>aN 0 Lo (agD f 0 [1,1,0,1,0,0]) (ak 0 (aW 0 ö (agD f 0 [1,1,1]) aaG)) n ⟨mkE 28 [(0,.val (.slice aa) l),(1,.val tInt id),(5,.own 0 0 aa out),(6,.val tInt i)],mkH 1 [(0,.row aa 44 0)]⟩
def aeG (f g:Nat):Dh f (g+1)=Fx ü (sm bG) (Dh f g):=Φ
def aeH:∀n,Dh FU n=mp4 bG (Di n):=cq Φ λf _ h=>(aeG FU f).trans (by rw[h];funext _ _ _ _;simp only[Fx,Fy,ss])
def ai6:aj prog 144 (agB):=evX func144 (S:=agC) ax (ag trivial) (tys:=[(.slice aa)]) (λf x=>Ux ü (sm bG) (Dh f f) x.1 x.2.1) (λx=>by show _=Option.map bG _;rw[aeH FU];simp only[Ux,FA,Fy,ss])
abbrev bk (C:Type):=Υ→Int→Option C
def agl (g:aa.den)(f:aa.den):Bool:=(iR g f).isSome
def agm (g:aa.den)(f:aa.den):Bool:=(iR g f).getD (zero .bool)
def lk (m:Bool)(K:Bool→Option C)(j:bk C):bk C:=λl i=>let g:=w64 (i-1);let h:=ix aa l g;let e:=bd i l.length;let c:=ix aa l i;cond (i<il l) (ck e (cl m .bool (bW c.1) (λr1=>let f:Bool:=!cond (!r1) ü (c.2.1<1);let b:Bool:=cond (!r1) ü (c.2.1<1);let d:Bool:=!cond b ü (c.2.1≥48);let a:Bool:=!cond b ü (c.2.1≥48)&&i>0;nm m 2 (!!r1) e (nq m [2,2,2,0] (!!r1) (nm m 2 f e (nq m [2,2,2,0] f (nq m [2,2] d (nq m [2] a (nm m 2 a (bd g l.length) (nq m [2] a (nm m 2 a e (nq m [2] a (nm m 2 a (agl h c) (nq m [2] a (nm m 0 d (ii a&&ü) (nq m [0] d (cond (cond (cond b ü (c.2.1≥48)) ü (cond (i>0) (!agm h c) ß)) (K ß) (fz m tInt (w64 (i+1)) (λp=>j l p))))))))))))))))))) (K ü)
def uE (m:Bool)(K:Bool→Option C)(f:bk C)(l:Υ):Option C:=f l 0
def mX:Nat→bk Bool:=lp (λ_ _=>ö) λf=>lk ß ä f
def ll (l:Υ):Option Bool:=uE ß ä (mX FU) l
def HX:Ent:=evE (.cons (.slice aa) .unit) ae (zero .bool) λx=>ll x.1
def gr:MS:=⟨0,[],[(0,.bb (.slice aa)),(3,.bb tInt)]⟩
def HY:Par:=⟨bE.tab,az [(146,eE),(322,Hi)],λ_=>look [],λ_=>look [(2,gr)]⟩
def HZ:=h12 HY f287
def mW (f n:Nat):bk AV:=λl i=>aN 0 gr (HZ f 0 [1,0,1,0,0]) (ak 0 (aW 0 ö (HZ f 0 [1,1]) iF)) n ⟨mkE 50 [(0,.val (.slice aa) l),(3,.val tInt i)],mkH 0 []⟩
def MG (f g:Nat):mW f (g+1)=lk ü (sm ae) (mW f g):=Φ
def MH:∀n,mW FU n=mp2 ae (mX n):=cq Φ λf _ h=>(MG FU f).trans (by rw[h];funext _ _;simp only[lk,ss])
def VN:aj prog 287 (HX):=evX func287 (S:=HY) ax (ag ⟨fW,QM,apa⟩) (tys:=[.bool]) (λf x=>uE ü (sm ae) (mW f f) x.1) (λx=>by show _=Option.map ae _;rw[MH FU];simp only[uE,ll,ss])
def lx (m:Bool)(K:Bool→Option C)(f:bk C):bk C:=λl i=>cond (i<il l) (ck (bd i l.length) (cond (eqD aM (ix aa l i).2.2.1 (0,ß,[],0,())) (K ß) (fz m tInt (w64 (i+1)) (λg=>f l g)))) (cl m .bool (ll l) (λr1=>K r1))
def uL (m:Bool)(K:Bool→Option C)(f:bk C)(l:Υ):Option C:=f l 0
def nr:Nat→bk Bool:=lp (λ_ _=>ö) λf=>lx ß ä f
def ly (l:Υ):Option Bool:=uL ß ä (nr FU) l
def H6:Ent:=evE (.cons (.slice aa) .unit) ae (zero .bool) λx=>ly x.1
def H7:Par:=⟨bE.tab,az [(287,HX)],λ_=>look [],λ_=>look [(2,gr)]⟩
def H8:=h12 H7 f232
def np (f n:Nat):bk AV:=λl i=>aN 0 gr (H8 f 0 [1,0,1,0,0]) (ak 0 (aW 0 ö (H8 f 0 [1,1]) iF)) n ⟨mkE 19 [(0,.val (.slice aa) l),(3,.val tInt i)],mkH 0 []⟩
def M4 (f g:Nat):np f (g+1)=lx ü (sm ae) (np f g):=Φ
def M5:∀n,np FU n=mp2 ae (nr n):=cq Φ λf _ h=>(M4 FU f).trans (by rw[h];funext _ _;simp only[lx,ss])
def VV:aj prog 232 (H6):=evX func232 (S:=H7) ax (ag ⟨VN,apa⟩) (tys:=[.bool]) (λf x=>uL ü (sm ae) (np f f) x.1) (λx=>by show _=Option.map ae _;rw[M5 FU];simp only[uL,ly,ss])
abbrev lw (C:Type):=aP.den→Int→Int→Int→Int→Option C
def EX (g:aa.den)(f:aa.den):Bool:=(fk g f).isSome
def RU (g:aa.den)(f:aa.den):Bool:=(fk g f).getD (zero .bool)
def oY (m:Bool)(K:aM.den→Option C)(j:lw C):lw C:=λf id field g r=>let c:=bd g f.1.length;let b:=ix aa f.1 g;let a:=Int.tdiv (w64 (g+r)) 2;let d:=w64 a;cond (g<r) (ck (!(2:Int)=0) (ck (bd d f.1.length) (cl m .bool (iR (ix aa f.1 d) (id,field,(0,ß,[],0,()),())) (λr1=>cond r1 (fz m tInt (w64 (w64 a+1)) (λp=>j f id field p r)) (fz m tInt d (λl=>j f id field g l)))))) (nq m [2] (g<il f.1) (nm m 2 (g<il f.1) c (nq m [2] (g<il f.1) (nm m 2 (g<il f.1) (EX b (id,field,(0,ß,[],0,()),())) (nq m [1] (g<il f.1) (cond (cond (g<il f.1) (RU b (id,field,(0,ß,[],0,()),())) ß) (ck c (K b.2.2.1)) (K (0,ß,[],0,()))))))))
def yn (m:Bool)(K:aM.den→Option C)(f:lw C)(j:aP.den)(id:Int)(field:Int):Option C:=fz m tInt (il j.1) λg=>f j id field 0 g
def qL:Nat→lw aM.den:=lp (λ_ _ _ _ _=>ö) λf=>oY ß ä f
def uK (f:aP.den)(id:Int)(field:Int):Option aM.den:=yn ß ä (qL FU) f id field
def cQ (r:aM.den):AV :=.val aM r
def M0:Ent:=evE (.cons aP (.cons tInt (.cons tInt .unit))) cQ (zero aM) λx=>uK x.1 x.2.1 x.2.2.1
def D7:MS:=⟨6,[(0,[.bb (.slice aa)]),(1,[.bb tInt,.bb .bool,.bb .str,.bb tInt]),(5,[.bb tInt,.bb tInt,.bb tInt,.bb .bool,.bb .str,.bb tInt])],[(3,.keep),(6,.keep),(7,.keep),(8,.bb tInt),(9,.bb tInt)]⟩
def M1:Par:=⟨bE.tab,az [(322,Hi),(323,Cf)],λ_=>look [],λ_=>look [(3,D7)]⟩
def Zd:KT:=bq bE.tab [.cell 6 42] [aM]
def M2:=h12 M1 f288
def qJ (f n:Nat):lw AV:=λg id field j l=>aN 0 D7 (M2 f 0 [1,1,1,0,0,0]) (ak 0 (aW 0 ö (M2 f 0 [1,1,1,1]) Zd)) n ⟨mkE 55 [(3,.box 0 0),(6,.box 1 0),(7,.box 5 0),(8,.val tInt j),(9,.val tInt l)],mkH 6 [(0,.box [.val (.slice aa) g.1]),(1,.box [.val tInt (0:Int),.val .bool ß,.val .str [],.val tInt (0:Int)]),(5,.box [.val tInt id,.val tInt field,.val tInt (0:Int),.val .bool ß,.val .str [],.val tInt (0:Int)])]⟩
def Q1 (f g:Nat):qJ f (g+1)=oY ü (sm cQ) (qJ f g):=Φ
def Q2:∀n,qJ FU n=mp5 cQ (qL n):=cq Φ λf _ h=>(Q1 FU f).trans (by rw[h];funext _ _ _ _ _;simp only[oY,ss])
def Zc:aj prog 288 (M0):=evX func288 (S:=M1) ax (ag ⟨QM,Oe,apa⟩) (tys:=[aM]) (λf x=>yn ü (sm cQ) (qJ f f) x.1 x.2.1 x.2.2.1) (λx=>by show _=Option.map cQ _;rw[Q2 FU];simp only[yn,uK,ss])
def LS (m:Bool)(K:aM.den→Option C)(f:aP.den)(id:Int)(field:Int):Option C:=cl m aM (uK f id field) λr1=>K r1
def zU (f:aP.den)(id:Int)(field:Int):Option aM.den:=LS ß ä f id field
def abE:Ent:=evE (.cons aP (.cons tInt (.cons tInt .unit))) cQ (zero aM) λx=>zU x.1 x.2.1 x.2.2.1
def ah5:Par:=⟨bE.tab,az [(288,M0)],λ_=>look [],λ_=>look []⟩
def ah4:aj prog 233 (abE):=evX func233 (S:=ah5) ax (ag ⟨Zc,apa⟩) (tys:=[aM]) (λf x=>LS ü (sm cQ) x.1 x.2.1 x.2.2.1) (λx=>by show _=Option.map cQ _;simp only[LS,zU,ss])
abbrev kY (C:Type):=aP.den→(List Int)→Int→Option C
abbrev X1 (C:Type):=Int→aP.den→(List Int)→Option C
def tX (m:Bool)(K:(List Int)→Option C)(f:kY C):X1 C:=λi j l=>fz m tInt (w64 (i+1)) λg=>f j l g
def tW (m:Bool)(K:(List Int)→Option C)(f:kY C):kY C:=λg l i=>let d:=w64 (i-1);let c:=bd i g.1.length;let b:Bool:=!i=0;let a:=ix aa g.1 i;cond (i<il g.1) (nq m [2] b (nm m 2 b c (nq m [2,2,2,2] b (nm m 2 b (bd d g.1.length) (nq m [2,2,3,0] b (cond (cond (i=0) ü (! a.1=(ix aa g.1 d).1)) (ck c (ck (lm (List.length l+List.length ([a.1]:List Int))) (fz m (.slice tInt) (l++[a.1]) (λj=>tX m K f i g j)))) (tX m K f i g l))))))) (K l)
def Dv (m:Bool)(K:(List Int)→Option C)(f:kY C)(g:aP.den):Option C:=f g [] 0
def vP:Nat→kY (List Int):=lp (λ_ _ _=>ö) λf=>tW ß ä f
def tY (f:aP.den):Option (List Int):=Dv ß ä (vP FU) f
def aw (r:(List Int)):AV :=.val (.slice tInt) r
def U2:Ent:=evE (.cons aP .unit) aw (zero (.slice tInt)) λx=>tY x.1
def Bg:MS:=⟨1,[(0,[.bb (.slice aa)])],[(1,.keep),(3,.own tInt 3),(4,.bb tInt)]⟩
def U3:Par:=⟨bE.tab,az [],λ_=>look [(4,Bg)],λ_=>look [(3,Bg)]⟩
def LJ:KT:=bq bE.tab [.tmp 2] [(.slice tInt)]
def U4:=h12 U3 f184
def vO (f n:Nat):kY AV:=λg l i=>aN 0 Bg (U4 f 0 [1,1,0,1,0,0]) (ak 0 (aW 0 ö (U4 f 0 [1,1,1]) LJ)) n ⟨mkE 40 [(1,.box 0 0),(3,.own 1 0 tInt l),(4,.val tInt i)],mkH 2 [(0,.box [.val (.slice aa) g.1]),(1,.row tInt 3 0)]⟩
def X2 (f g:Nat):vO f (g+1)=tW ü (sm aw) (vO f g):=Φ
def X3:∀n,vO FU n=mp3 aw (vP n):=cq Φ λf _ h=>(X2 FU f).trans (by rw[h];funext _ _ _;simp only[tW,tX,ss])
def afc:aj prog 184 (U2):=evX func184 (S:=U3) ax (ag trivial) (tys:=[(.slice tInt)]) (λf x=>Dv ü (sm aw) (vO f f) x.1) (λx=>by show _=Option.map aw _;rw[X3 FU];simp only[Dv,tY,tX,ss])
def oZ (f:Int):Bool:=(bW f).isSome
def gu (f:Int):Bool:=(bW f).getD (zero .bool)
def qY (m:Bool)(K:Bool→Option C)(v:aM.den):Option C:=let j:=decide (v.1<5);let i:=K ß;let h:=decide (v.1=12);let f:Bool:=!decide (v.1=16);let e:=bif h then ü else(decide (v.1=16));let d:=decide (v.2.2.2.1=0);let c:Bool:=!decide (v.2.2.2.1=0);let b:=bif e then ü else(decide (v.1=9));let g:=bif c then(! b)else ß;let a:=bif j then ü else(decide (v.1>22));(nq m [2,2,0] (! j) (nq m [2,2,2] (! a) (nq m [2] ((! a)&&c) (nm m 1 ((! a)&&c) (oZ (v.2.2.2.1)) (nq m [2] ((! a)&&c) (nm m 0 (! a) ((ii ((! a)&&c))&&ü) (nq m [0] (! a) (bif (bif a then ü else(bif c then(!(gu (v.2.2.2.1)))else ß))then i else(nq m [2,2,0] (! h) (nq m [2,2,0] (! e) (nq m [2,1] c (nq m [2,2,1] g (bif (bif g then(!decide (v.1=17))else ß)then i else(nq m [2,2,2] (v.2.1) (nq m [2,2,2] (v.2.1&&(! d)) (nq m [2,2] ((v.2.1&&(! d))&&f) (nm m 0 (v.2.1&&(! d)) ((ii ((v.2.1&&(! d))&&f))&&ü) (nm m 0 (v.2.1) (ii (v.2.1&&(! d))) (nq m [1] (v.2.1) (bif (bif v.2.1 then(bif d then ü else(bif f then(!decide (v.1=9))else ß))else ß)then i else(nq m [2,2,1] b (bif (bif b then c else ß)then(K (decide (v.2.2.1=[])))else(cl m .bool (gT (v.1) (v.2.2.1)) λr1=>(K r1))))))))))))))))))))))))
def ji (v:aM.den):Option Bool:=qY ß ä v
def Ez:Ent:=evE (.cons aM .unit) ae (zero .bool) λx=>ji x.1
def Rs:Par:=⟨bE.tab,az [(146,eE),(273,BX)],λ_=>look [],λ_=>look []⟩
def Rr:aj prog 236 (Ez):=evX func236 (S:=Rs) ax (ag ⟨fW,Nl,apa⟩) (tys:=[.bool]) (λf x=>qY ü (sm ae) x.1) (λx=>by show _=Option.map ae _;simp only[qY,ji,ss])
def Zo (g:Str)(f:Bool):Bool:=(iG g f).isSome
def Zp (g:Str)(f:Bool):Bool:=(iG g f).getD (zero .bool)
def vU (m:Bool)(K:Bool→Option C)(g:Int)(field:Int)(v:aM.den):Option C:=let f:=K ß;let e:=cond (v.1<0) ü (v.1>3);let d:Bool:=cond (g=1) (decide (field=10)) ß;let c:Bool:=eqD aM v (0,ß,v.2.2.1,0,())&&g=1;let b:Bool:=!cond e ü v.2.1;let a:=eqD aM v (0,ß,v.2.2.1,0,());cond (eqD aM v (0,ß,[],0,())) (K ü) (nq m [2,0] (!g<1) (cond (cond (g<1) ü (g>5)) f (cond (field=1) (K (eqD aM v (g,ß,[],0,()))) (nq m [2,1] (field=2) (cond (cond (field=2) (g=1) ß) (K (eqD aM v (1,ß,[],0,()))) (cond (field=2) (nq m [2,2,0] (!v.1<0) (nq m [2,0] (!cond (v.1<0) ü (v.1>3)) (nq m [2] b (nm m 1 b (oZ v.2.2.2.1) (nq m [2,0] b (cond (cond (cond e ü v.2.1) ü (!gu v.2.2.2.1)) f (cond (v.1=0) (cl m .bool (lC v.2.2.1) (λr1=>K r1)) (K (decide (v.2.2.1=[])))))))))) (nq m [2,1] (field=3) (cond (cond (field=3) (!g=5) ß) (cl m tInt (ld v.2.2.1) (λj=>cond (!eqD aM v (0,ß,v.2.2.1,0,())) f (nq m [2,0] (!g=1) (cond (cond (g=1) ü (g=3)) (K (decide (j=2))) (K (decide (j=1))))))) (nq m [2,1] (field=4) (cond (cond (field=4) (g=5) ß) (cl m .bool (ji v) (λl=>K l)) (nq m [2,1] (field≥8) (cond (cond (field≥8) (field<48) ß) (nq m [2,2,2] a (nq m [2] c (nm m 0 a (ii c&&ü) (nm m 2 a (Zo v.2.2.1 d) (nq m [1] a (K (cond a (Zp v.2.2.1 d) ß))))))) f))))))))))))
def iN (f:Int)(field:Int)(v:aM.den):Option Bool:=vU ß ä f field v
def Bn:Ent:=evE (.cons tInt (.cons tInt (.cons aM .unit))) ae (zero .bool) λx=>iN x.1 x.2.1 x.2.2.1
def X8:Par:=⟨bE.tab,az [(146,eE),(234,H9),(235,G3),(236,Ez),(237,Id)],λ_=>look [],λ_=>look []⟩
def Jn:aj prog 186 (Bn):=evX func186 (S:=X8) ax (ag ⟨fW,VW,Qs,Rr,V4,apa⟩) (tys:=[.bool]) (λf x=>vU ü (sm ae) x.1 x.2.1 x.2.2.1) (λx=>by show _=Option.map ae _;simp only[vU,iN,ss])
abbrev fZ (C:Type):=aP.den→Int→Bool→Bool→Int→Option C
abbrev B4 (C:Type):=aP.den→Int→Int→Bool→Bool→Option C
def pn (m:Bool)(K:Bool→Option C)(j:fZ C):B4 C:=λp i g named f=>fz m tInt (w64 (i+1)) λl=>j p g named f l
def iI (m:Bool)(K:Bool→Option C)(r:fZ C):B4 C:=λR i l named p=>let k:=w64 (i+1);let j:=il R.1-1;let d:=bd i R.1.length;let c:Bool:=!i=w64 j;let b:=ix aa R.1 i;let g:=cond named ü (decide (b.2.1=3));let f:=cond p ü (decide (b.2.1=4));let a:Bool:=!cond p ü (b.2.1=4);let h:Bool:=!cond (l=5) a ß&&!l=5;let e:Bool:=!cond (l=5) a ß;ck d (ck d (cl m .bool (iN l b.2.1 b.2.2.1) (λT=>cond (!T) (K ß) (nm m 2 (!named) d (nq m [2,2,2,0] (!named) (nm m 2 (!p) d (nq m [2,2,2,0] (!p) (nq m [2] c (nm m 2 c (bd k R.1.length) (nq m [2,2] c (nm m 2 c d (nq m [2,2,3,0] c (cond (cond (i=w64 j) ü (!(ix aa R.1 k).1=b.1)) (nq m [2,1] (l=5) (nq m [2,2] e (nq m [2] h (nm m 0 e (ii h&&ü) (nq m [0] e (cond (cond (cond (l=5) a ß) ü (cond (!l=5) (!cond named ü (b.2.1=3)) ß)) (K ß) (fz m .bool g (λP=>fz m .bool f λJ=>pn m K r R i l P J)))))))) (fz m .bool g (λP=>fz m .bool f λJ=>pn m K r R i l P J)))))))))))))))
def pm (m:Bool)(K:Bool→Option C)(g:fZ C):fZ C:=λj l named f i=>let d:=w64 (i-1);let c:Bool:=!i=0;let b:=ix aa j.1 i;let a:=bd i j.1.length;cond (i<il j.1) (nm m 2 c a (nq m [2,2,2] c (nm m 2 c (bd d j.1.length) (nq m [2,2,3,0] c (cond (cond (i=0) ü (! b.1=(ix aa j.1 d).1)) (ck a (cond (! b.2.1=1) (K ß) (ck a (fz m tInt b.2.2.1.1 (λp=>iI m K g j i p ß ß))))) (iI m K g j i l named f)))))) (K ü)
def yE (m:Bool)(K:Bool→Option C)(f:fZ C)(g:aP.den):Option C:=cl m .bool (ly g.1) λr1=>cond (!r1) (K ß) (f g 0 ß ß 0)
def lH:Nat→fZ Bool:=lp (λ_ _ _ _ _=>ö) λf=>pm ß ä f
def pp (f:aP.den):Option Bool:=yE ß ä (lH FU) f
def ND:Ent:=evE (.cons aP .unit) ae (zero .bool) λx=>pp x.1
def qT:MS:=⟨0,[],[(3,.bb (.slice aa)),(4,.bb tInt),(5,.bb .bool),(6,.bb .bool),(7,.bb tInt)]⟩
def NE:Par:=⟨bE.tab,az [(232,H6),(186,Bn)],λ_=>look [(12,qT),(7,qT)],λ_=>look [(6,qT)]⟩
def NF:=h12 NE f183
def qU (g n:Nat):fZ AV:=λl j named f i=>aN 0 qT (NF g 0 [1,1,1,1,0,1,0,0]) (ak 0 (aW 0 ö (NF g 0 [1,1,1,1,1]) iF)) n ⟨mkE 111 [(3,.val (.slice aa) l.1),(4,.val tInt j),(5,.val .bool named),(6,.val .bool f),(7,.val tInt i)],mkH 0 []⟩
def Rg (f g:Nat):qU f (g+1)=pm ü (sm ae) (qU f g):=Φ
def Rh:∀n,qU FU n=mp5 ae (lH n):=cq Φ λf _ h=>(Rg FU f).trans (by rw[h];funext _ _ _ _ _;simp only[pm,iI,pn,ss])
def ZR:aj prog 183 (ND):=evX func183 (S:=NE) ax (ag ⟨VV,Jn,apa⟩) (tys:=[.bool]) (λf x=>yE ü (sm ae) (qU f f) x.1) (λx=>by show _=Option.map ae _;rw[Rh FU];simp only[yE,pp,iI,pn,ss])
abbrev ib (C:Type):=Int→Int→aP.den→Int→Int→Option C
def jq (m:Bool)(K:Bool→Option C)(g:ib C):ib C:=λl f p id i=>cond (i<f) (cl m aM (zU p id 2) (λr1=>cond (r1.2.2.2.1=l) (K ü) (cond (r1.2.2.2.1=0) (K ß) (fz m tInt (w64 (i+1)) (λj=>g l f p r1.2.2.2.1 j))))) (K ß)
def rj (m:Bool)(K:Bool→Option C)(g:ib C)(l:aP.den)(id:Int)(j:Int)(f:Int):Option C:=g j f l id 0
def kB:Nat→ib Bool:=lp (λ_ _ _ _ _=>ö) λf=>jq ß ä f
def gz (j:aP.den)(id:Int)(g:Int)(f:Int):Option Bool:=rj ß ä (kB FU) j id g f
def EZ:Ent:=evE (.cons aP (.cons tInt (.cons tInt (.cons tInt .unit)))) ae (zero .bool) λx=>gz x.1 x.2.1 x.2.2.1 x.2.2.2.1
def yR:MS:=⟨1,[(0,[.bb (.slice aa)])],[(1,.bb tInt),(2,.bb tInt),(3,.bb tInt),(4,.keep),(9,.bb tInt)]⟩
def E0:Par:=⟨bE.tab,az [(233,abE)],λ_=>look [],λ_=>look [(2,yR)]⟩
def RY:KT:=bq bE.tab [.tmp 8] [.bool]
def E1:=h12 E0 f185
def kA (f n:Nat):ib AV:=λj g l id i=>aN 0 yR (E1 f 0 [1,0,1,0,0]) (ak 0 (aW 0 ö (E1 f 0 [1,1]) RY)) n ⟨mkE 24 [(1,.val tInt id),(2,.val tInt j),(3,.val tInt g),(4,.box 0 0),(9,.val tInt i)],mkH 1 [(0,.box [.val (.slice aa) l.1])]⟩
def KY (f g:Nat):kA f (g+1)=jq ü (sm ae) (kA f g):=Φ
def KZ:∀n,kA FU n=mp5 ae (kB n):=cq Φ λf _ h=>(KY FU f).trans (by rw[h];funext _ _ _ _ _;simp only[jq,ss])
def RW:aj prog 185 (EZ):=evX func185 (S:=E0) ax (ag ⟨ah4,apa⟩) (tys:=[.bool]) (λf x=>rj ü (sm ae) (kA f f) x.1 x.2.1 x.2.2.1 x.2.2.2.1) (λx=>by show _=Option.map ae _;rw[KZ FU];simp only[rj,gz,ss])
abbrev gL (C:Type):=Int→(List Int)→aP.den→(List Int)→Int→Option C
abbrev QB (C:Type):=Int→(List Int)→Int→aP.den→(List Int)→Option C
def mK (m:Bool)(K:(List Int)→Option C)(f:gL C):QB C:=λid l i j out=>fz m tInt (w64 (i+1)) λg=>f id l j out g
def IB (l:aP.den)(j:Int)(g:Int)(f:Int):Bool:=(gz l j g f).isSome
def WW (l:aP.den)(j:Int)(g:Int)(f:Int):Bool:=(gz l j g f).getD (zero .bool)
def mJ (m:Bool)(K:(List Int)→Option C)(g:gL C):gL C:=λid f j out i=>let d:=ix tInt f i;let c:=w64 (il f+1);let b:=bd i f.length;let a:Bool:=!ix tInt f i=id;cond (i<il f) (ck b (nm m 2 a b (nq m [2,2,2] a (ck (ii a&&(ii a&&(ii a&&(ii a&&ü)))&&aL a (IB j d id c)) (nq m [1] a (cond (cond a (WW j d id c) ß) (ck b (ck (lm (List.length out+List.length ([ix tInt f i]:List Int))) (fz m (.slice tInt) (out++[ix tInt f i]) (λl=>mK m K g id f i j l)))) (mK m K g id f i j out))))))) (K out)
def wa (m:Bool)(K:(List Int)→Option C)(f:gL C)(g:aP.den)(id:Int):Option C:=cl m .bool (pp g) λr1=>nm m 1 (!!r1) (oZ id) (nq m [2,0] (!!r1) (cond (cond (!r1) ü (!gu id)) (K []) (cl m (.slice tInt) (tY g) (λj=>f id j g [] 0))))
def oe:Nat→gL (List Int):=lp (λ_ _ _ _ _=>ö) λf=>mJ ß ä f
def mM (f:aP.den)(id:Int):Option (List Int):=wa ß ä (oe FU) f id
def JS:Ent:=evE (.cons aP (.cons tInt .unit)) aw (zero (.slice tInt)) λx=>mM x.1 x.2.1
def uu:MS:=⟨1,[(0,[.bb (.slice aa)])],[(1,.bb tInt),(2,.keep),(5,.own tInt 3),(6,.bb (.slice tInt)),(7,.bb tInt)]⟩
def JT:Par:=⟨bE.tab,az [(183,ND),(146,eE),(184,U2),(185,EZ)],λ_=>look [(7,uu)],λ_=>look [(6,uu)]⟩
def we:KT:=bq bE.tab [.tmp 4] [(.slice tInt)]
def JU:=h12 JT f143
def od (f n:Nat):gL AV:=λid j g out i=>aN 0 uu (JU f 0 [1,1,1,1,0,1,0,0]) (ak 0 (aW 0 ö (JU f 0 [1,1,1,1,1]) we)) n ⟨mkE 50 [(1,.val tInt id),(2,.box 0 0),(5,.own 1 0 tInt out),(6,.val (.slice tInt) j),(7,.val tInt i)],mkH 2 [(0,.box [.val (.slice aa) g.1]),(1,.row tInt 3 0)]⟩
def QC (f g:Nat):od f (g+1)=mJ ü (sm aw) (od f g):=Φ
def QD:∀n,od FU n=mp5 aw (oe n):=cq Φ λf _ h=>(QC FU f).trans (by rw[h];funext _ _ _ _ _;simp only[mJ,mK,ss])
def YD:aj prog 143 (JS):=evX func143 (S:=JT) ax (ag ⟨ZR,fW,afc,RW,apa⟩) (tys:=[(.slice tInt)]) (λf x=>wa ü (sm aw) (od f f) x.1 x.2.1) (λx=>by show _=Option.map aw _;rw[QD FU];simp only[wa,mM,mK,ss])
abbrev fM (C:Type):=(List Int)→Int→Int→Option C
def zR (m:Bool)(K:Bool→Option C)(f:fM C):fM C:=λl x i=>cond (i<il l) (ck (bd i l.length) (cond (ix tInt l i=x) (K ü) (fz m tInt (w64 (i+1)) (λg=>f l x g)))) (K ß)
def LO (m:Bool)(K:Bool→Option C)(f:fM C)(l:(List Int))(x:Int):Option C:=f l x 0
def zQ:Nat→fM Bool:=lp (λ_ _ _=>ö) λf=>zR ß ä f
def rM (l:(List Int))(x:Int):Option Bool:=LO ß ä (zQ FU) l x
def Bh:Ent:=evE (.cons (.slice tInt) (.cons tInt .unit)) ae (zero .bool) λx=>rM x.1 x.2.1
def Gs:MS:=⟨0,[],[(0,.bb (.slice tInt)),(1,.bb tInt),(5,.bb tInt)]⟩
def LQ:Par:=⟨bE.tab,az [],λ_=>look [],λ_=>look [(2,Gs)]⟩
def ah2:KT:=bq bE.tab [.tmp 4] [.bool]
def abB:=h12 LQ f17
def zP (f n:Nat):fM AV:=λl x i=>aN 0 Gs (abB f 0 [1,0,1,0,0]) (ak 0 (aW 0 ö (abB f 0 [1,1]) ah2)) n ⟨mkE 18 [(0,.val (.slice tInt) l),(1,.val tInt x),(5,.val tInt i)],mkH 0 []⟩
def abz (f g:Nat):zP f (g+1)=zR ü (sm ae) (zP f g):=Φ
def abA:∀n,zP FU n=mp3 ae (zQ n):=cq Φ λf _ h=>(abz FU f).trans (by rw[h];funext _ _ _;simp only[zR,ss])
def Gr:aj prog 17 (Bh):=evX func17 (S:=LQ) ax (ag trivial) (tys:=[.bool]) (λf x=>LO ü (sm ae) (zP f f) x.1 x.2.1) (λx=>by show _=Option.map ae _;rw[abA FU];simp only[LO,rM,ss])
def yV (m:Bool)(K:(List Int)→Option C)(g:fM C):fM C:=λl x f=>let d:=Int.toNat f;let c:=List.take (List.length l) l;let b:=w64 (f-1);let e:=bd b l.length;let a:=List.take d l;nq m [2] (f>0) (nm m 2 (f>0) e (nq m [2,3,1] (f>0) (cond (cond (f>0) (ix tInt l b≥x) ß) (ck e (cond (ix tInt l b=x) (K l) (fz m tInt b (λj=>g l x j)))) (ck (0≤f&&f≤(l.length:Int)) (ck (lm (List.length ([]:List Int)+List.length (a.drop 0))) (ck (lm (List.length ([]++a.drop 0)+List.length ([x]:List Int))) (ck (0≤f&&f≤(l.length:Int)) (ck (lm (List.length ([]++a.drop 0++[x])+List.length (c.drop d))) (K ([]++a.drop 0++[x]++c.drop d))))))))))
def K0 (m:Bool)(K:(List Int)→Option C)(f:fM C)(l:(List Int))(x:Int):Option C:=fz m tInt (il l) λg=>f l x g
def yU:Nat→fM (List Int):=lp (λ_ _ _=>ö) λf=>yV ß ä f
def vo (l:(List Int))(x:Int):Option (List Int):=K0 ß ä (yU FU) l x
def R0:Ent:=evE (.cons (.slice tInt) (.cons tInt .unit)) aw (zero (.slice tInt)) λx=>vo x.1 x.2.1
def aam:=h12 LQ f19
def yT (f n:Nat):fM AV:=λl x g=>aN 0 Gs (aam f 0 [1,1,0,0,0]) (ak 0 (aW 0 ö (aam f 0 [1,1,1]) we)) n ⟨mkE 44 [(0,.val (.slice tInt) l),(1,.val tInt x),(5,.val tInt g)],mkH 0 []⟩
def aak (f g:Nat):yT f (g+1)=yV ü (sm aw) (yT f g):=Φ
def aal:∀n,yT FU n=mp3 aw (yU n):=cq Φ λf _ h=>(aak FU f).trans (by rw[h];funext _ _ _;simp only[yV,ss])
def aaj:aj prog 19 (R0):=evX func19 (S:=LQ) ax (ag trivial) (tys:=[(.slice tInt)]) (λf x=>K0 ü (sm aw) (yT f f) x.1 x.2.1) (λx=>by show _=Option.map aw _;rw[aal FU];simp only[K0,vo,ss])
abbrev mh (C:Type):=(List Int)→Int→Option C
def pX (m:Bool)(K:Bool→Option C)(f:mh C):mh C:=λl i=>let d:=w64 (i-1);let b:=bd i l.length;cond (i<il l) (ck b (cl m .bool (bW (ix tInt l i)) (λr1=>let c:Bool:=!!r1;let a:Bool:=!!r1&&i>0;nq m [2,2] c (nm m 2 a b (nq m [2,2] a (nm m 2 a (bd d l.length) (nq m [2,3] a (nm m 0 c (ii a&&ü) (nq m [0] c (cond (cond (!r1) ü (cond (i>0) (ix tInt l i≤ix tInt l d) ß)) (K ß) (fz m tInt (w64 (i+1)) (λg=>f l g)))))))))))) (K ü)
def zK (m:Bool)(K:Bool→Option C)(f:mh C)(l:(List Int)):Option C:=f l 0
def rG:Nat→mh Bool:=lp (λ_ _=>ö) λf=>pX ß ä f
def kZ (l:(List Int)):Option Bool:=zK ß ä (rG FU) l
def Pm:Ent:=evE (.cons (.slice tInt) .unit) ae (zero .bool) λx=>kZ x.1
def Gj:MS:=⟨0,[],[(0,.bb (.slice tInt)),(3,.bb tInt)]⟩
def Pn:Par:=⟨bE.tab,az [(146,eE)],λ_=>look [],λ_=>look [(2,Gj)]⟩
def Po:=h12 Pn f147
def rF (f n:Nat):mh AV:=λl i=>aN 0 Gj (Po f 0 [1,0,1,0,0]) (ak 0 (aW 0 ö (Po f 0 [1,1]) iF)) n ⟨mkE 32 [(0,.val (.slice tInt) l),(3,.val tInt i)],mkH 0 []⟩
def SZ (f g:Nat):rF f (g+1)=pX ü (sm ae) (rF f g):=Φ
def S3:∀n,rF FU n=mp2 ae (rG n):=cq Φ λf _ h=>(SZ FU f).trans (by rw[h];funext _ _;simp only[pX,ss])
def abt:aj prog 147 (Pm):=evX func147 (S:=Pn) ax (ag ⟨fW,apa⟩) (tys:=[.bool]) (λf x=>zK ü (sm ae) (rF f f) x.1) (λx=>by show _=Option.map ae _;rw[S3 FU];simp only[zK,kZ,ss])
abbrev jr (C:Type):=tCommit.den→Int→Option C
def lW (m:Bool)(K:Bool→Option C)(f:jr C):jr C:=λc i=>let b:=bd i c.2.2.2.1.length;let a:Bool:=!ixs c.2.2.2.1 i<32;cond (i<il c.2.2.2.1) (ck b (nq m [2] a (nm m 2 a b (nq m [2,0] a (cond (cond (ixs c.2.2.2.1 i<32) ü (ixs c.2.2.2.1 i>126)) (K ß) (fz m tInt (w64 (i+1)) (λg=>f c g))))))) (K ü)
def U5 (f:(List Int)):Bool:=(kZ f).isSome
def bH (f:(List Int)):Bool:=(kZ f).getD (zero .bool)
def Cu (g:(List Int))(f:Int):Bool:=(rM g f).isSome
def p9 (g:(List Int))(f:Int):Bool:=(rM g f).getD (zero .bool)
def vq (m:Bool)(K:Bool→Option C)(p:jr C)(c:tCommit.den):Option C:=let o:Bool:=il c.2.1>4;let n:Bool:=!bH c.2.2.1;let l:=p9 c.2.1 c.1;let j:=p9 c.2.2.1 c.1;let d:Bool:=il c.2.2.1>4;cl m .bool (bW c.1) λr1=>let f:=cond (!r1) ü (!bH c.2.1);let i:=cond f ü n;let e:Bool:=!cond (!r1) ü (!bH c.2.1);let a:=cond i ü o;let k:=cond a ü d;let h:Bool:=!cond a ü d;let g:=cond k ü l;let b:Bool:=!cond k ü l;nq m [2] (!!r1) (nm m 1 (!!r1) (U5 c.2.1) (nq m [2,0] (!!r1) (nq m [2] e (nm m 1 e (U5 c.2.2.1) (nq m [2,0] e (nq m [2,2,2,0] (!cond f ü n) (nq m [2,2,2,0] (!cond i ü o) (nq m [2,2] h (nm m 2 h (Cu c.2.1 c.1) (nq m [0] h (nq m [2,2] b (nm m 2 b (Cu c.2.2.1 c.1) (nq m [0] b (nq m [2,2,2,0] (!cond g ü j) (cond (cond (cond g ü j) ü (il c.2.2.2.1>80)) (K ß) (p c 0))))))))))))))))
def nM:Nat→jr Bool:=lp (λ_ _=>ö) λf=>lW ß ä f
def lX (c:tCommit.den):Option Bool:=vq ß ä (nM FU) c
def IF:Ent:=evE (.cons tCommit .unit) ae (zero .bool) λx=>lX x.1
def Cg:MS:=⟨1,[(0,[.bb tInt,.bb (.slice tInt),.bb (.slice tInt),.bb .str,.bb (.slice aa)])],[(1,.keep),(3,.bb tInt)]⟩
def IG:Par:=⟨bE.tab,az [(146,eE),(147,Pm),(17,Bh)],λ_=>look [],λ_=>look [(4,Cg)]⟩
def IH:=h12 IG f104
def nL (f n:Nat):jr AV:=λc i=>aN 0 Cg (IH f 0 [1,1,0,1,0,0]) (ak 0 (aW 0 ö (IH f 0 [1,1,1]) iF)) n ⟨mkE 71 [(1,.box 0 0),(3,.val tInt i)],mkH 1 [(0,.box [.val tInt c.1,.val (.slice tInt) c.2.1,.val (.slice tInt) c.2.2.1,.val .str c.2.2.2.1,.val (.slice aa) c.2.2.2.2.1])]⟩
def On (f g:Nat):nL f (g+1)=lW ü (sm ae) (nL f g):=Φ
def Oo:∀n,nL FU n=mp2 ae (nM n):=cq Φ λf _ h=>(On FU f).trans (by rw[h];funext _ _;simp only[lW,ss])
def WZ:aj prog 104 (IF):=evX func104 (S:=IG) ax (ag ⟨fW,abt,Gr,apa⟩) (tys:=[.bool]) (λf x=>vq ü (sm ae) (nL f f) x.1) (λx=>by show _=Option.map ae _;rw[Oo FU];simp only[vq,lX,ss])
abbrev lj:=(Ty.den (.cons aM (.cons .bool .unit)))
abbrev gO (C:Type):=Υ→Int→Int→Int→Option C
def i6 (m:Bool)(K:lj→Option C)(f:gO C):gO C:=λw id field i=>let b:=bd i w.length;let a:=ix aa w i;cond (i≥0) (ck b (nm m 2 (a.1=id) b (nq m [2,2,3,1] (a.1=id) (cond (cond (a.1=id) (a.2.1=field) ß) (ck b (K (a.2.2.1,ü,()))) (fz m tInt (w64 (i-1)) (λg=>f w id field g)))))) (K ((0,ß,[],0,()),ß,()))
def qp (m:Bool)(K:lj→Option C)(f:gO C)(w:Υ)(id:Int)(field:Int):Option C:=fz m tInt (w64 (il w-1)) λg=>f w id field g
def j6:Nat→gO lj:=lp (λ_ _ _ _=>ö) λf=>i6 ß ä f
def eC (w:Υ)(id:Int)(field:Int):Option lj:=qp ß ä (j6 FU) w id field
def lh (r:lj):AV :=.tup (aY [.val aM r.1,.val .bool r.2.1])
def qq:Ent:=evE (.cons (.slice aa) (.cons tInt (.cons tInt .unit))) lh (zero (.cons aM (.cons .bool .unit))) λx=>eC x.1 x.2.1 x.2.2.1
def yd:MS:=⟨1,[(0,[.bb tInt,.bb .bool,.bb .str,.bb tInt])],[(0,.bb (.slice aa)),(1,.bb tInt),(2,.bb tInt),(6,.keep),(8,.bb tInt)]⟩
def DO:Par:=⟨bE.tab,az [],λ_=>look [],λ_=>look [(2,yd)]⟩
def QP:KT:=bq bE.tab [.cell 6 42,.tmp 7] [aM,.bool]
def DP:=h12 DO f64
def j4 (f n:Nat):gO AV:=λw id field i=>aN 0 yd (DP f 0 [1,0,1,0,0]) (ak 0 (aW 0 ö (DP f 0 [1,1]) QP)) n ⟨mkE 38 [(0,.val (.slice aa) w),(1,.val tInt id),(2,.val tInt field),(6,.box 0 0),(8,.val tInt i)],mkH 1 [(0,.box [.val tInt (0:Int),.val .bool ß,.val .str [],.val tInt (0:Int)])]⟩
def J0 (f g:Nat):j4 f (g+1)=i6 ü (sm lh) (j4 f g):=Φ
def J5:∀n,j4 FU n=mp4 lh (j6 n):=cq Φ λf _ h=>(J0 FU f).trans (by rw[h];funext _ _ _ _;simp only[i6,ss])
def xk:aj prog 64 (qq):=evX func64 (S:=DO) ax (ag trivial) (tys:=[aM,.bool]) (λf x=>qp ü (sm lh) (j4 f f) x.1 x.2.1 x.2.2.1) (λx=>by show _=Option.map lh _;rw[J5 FU];simp only[qp,eC,ss])
def Do (m:Bool)(K:Int→Option C)(s:ai.den)(id:Int):Option C:=ce m (.slice eG) (cj s id 1) (iw s id 1) λr1=>cond (il r1=0) (K 0) (ck (bd 0 r1.length) (K (ix eG r1 0).2.1.1))
def fK (s:ai.den)(id:Int):Option Int:=Do ß ä s id
def zD:Ent:=evE (.cons ai (.cons tInt .unit)) av (zero tInt) λx=>fK x.1 x.2.1
def UR:Par:=⟨bE.tab,az [(141,DH)],λ_=>look [],λ_=>look []⟩
def Dn:aj prog 95 (zD):=evX func95 (S:=UR) ax (ag ⟨Mv,apa⟩) (tys:=[tInt]) (λf x=>Do ü (sm av) x.1 x.2.1) (λx=>by show _=Option.map av _;simp only[Do,fK,ss])
def vJ (m:Bool)(K:Int→Option C)(s:ai.den)(w:Υ)(id:Int):Option C:=cl m tInt (fK s id) λr1=>cond (!r1=0) (K r1) (cl m (.cons aM (.cons .bool .unit)) (eC w id 1) (λf=>K f.1.1))
def ma (s:ai.den)(w:Υ)(id:Int):Option Int:=vJ ß ä s w id
def I1:Ent:=evE (.cons ai (.cons (.slice aa) (.cons tInt .unit))) av (zero tInt) λx=>ma x.1 x.2.1 x.2.2.1
def XJ:Par:=⟨bE.tab,az [(95,zD),(64,qq)],λ_=>look [],λ_=>look []⟩
def XI:aj prog 149 (I1):=evX func149 (S:=XJ) ax (ag ⟨Dn,xk,apa⟩) (tys:=[tInt]) (λf x=>vJ ü (sm av) x.1 x.2.1 x.2.2.1) (λx=>by show _=Option.map av _;simp only[vJ,ma,ss])
def rD (m:Bool)(K:Bool→Option C)(f:Int):Option C:=let b:Bool:=!cond (f≥1) (f≤4) ß&&f≥8;let a:Bool:=!cond (f≥1) (f≤4) ß;nq m [2,1] (f≥1) (nq m [2,2] a (nq m [2] b (nm m 0 a (ii b&&ü) (nq m [0] a (K (cond (cond (f≥1) (f≤4) ß) ü (cond (f≥8) (decide (f<48)) ß)))))))
def gI (f:Int):Option Bool:=rD ß ä f
def Gc:Ent:=evE (.cons tInt .unit) ae (zero .bool) λx=>gI x.1
def SQ:aj prog 148 (Gc):=evX func148 (S:=qN) ax (ag trivial) (tys:=[.bool]) (λf x=>rD ü (sm ae) x.1) (λx=>by show _=Option.map ae _;simp only[rD,gI,ss])
def yB (m:Bool)(K:Bool→Option C)(f:Int)(field:Int)(v:aM.den):Option C:=let a:Bool:=!decide (field=3);(cl m .bool (iN f field v) λr1=>(nq m [3,2] r1 (nq m [2,2] (r1&&(!(!eqD aM v (0,ß,[],0,())))) (nq m [2] ((r1&&(!(!eqD aM v (0,ß,[],0,()))))&&a) (nm m 0 (r1&&(!(!eqD aM v (0,ß,[],0,())))) ((ii ((r1&&(!(!eqD aM v (0,ß,[],0,()))))&&a))&&ü) (nm m 0 r1 (ii (r1&&(!(!eqD aM v (0,ß,[],0,()))))) (nq m [1] r1 (K (bif r1 then(bif (!eqD aM v (0,ß,[],0,()))then ü else(bif a then(!decide (field=4))else ß))else ß)))))))))
def ph (f:Int)(field:Int)(v:aM.den):Option Bool:=yB ß ä f field v
def Ns:Ent:=evE (.cons tInt (.cons tInt (.cons aM .unit))) ae (zero .bool) λx=>ph x.1 x.2.1 x.2.2.1
def Zz:Par:=⟨bE.tab,az [(186,Bn)],λ_=>look [],λ_=>look []⟩
def Zy:aj prog 150 (Ns):=evX func150 (S:=Zz) ax (ag ⟨Jn,apa⟩) (tys:=[.bool]) (λf x=>yB ü (sm ae) x.1 x.2.1 x.2.2.1) (λx=>by show _=Option.map ae _;simp only[yB,ph,ss])
abbrev iY (C:Type):=tCommit.den→aa.den→Int→Option C
def kH (m:Bool)(K:Int→Option C)(f:aE C):iY C:=λc x g=>cl m (.cons aM (.cons .bool .unit)) (eC c.2.2.2.2.1 x.1 g) λj=>cond (!j.2.1) (K 16) f
def kG (m:Bool)(K:Int→Option C):aE C:=(K 0)
def XT (f:Int):Bool:=(gI f).isSome
def XU (f:Int):Bool:=(gI f).getD (zero .bool)
def rO (m:Bool)(K:Int→Option C)(f:iY C)(g:aE C)(s:ai.den)(c:tCommit.den)(x:aa.den):Option C:=let a:=cond (x.2.2.1.1<1) ü (x.2.2.1.1>5);cl m .bool (bW x.1) λr1=>let b:Bool:=!cond (!r1) ü (x.1=c.1);nq m [2,2,3,0] (!!r1) (nq m [2] b (nm m 1 b (XT x.2.1) (nq m [2,0] b (cond (cond (cond (!r1) ü (x.1=c.1)) ü (!XU x.2.1)) (K 5) (cl m tInt (fK s x.1) (λj=>cond (x.2.1=1) (nq m [2,2,2,0] (!x.2.2.1.1<1) (nq m [2,2,2,2,3,0] (!cond (x.2.2.1.1<1) ü (x.2.2.1.1>5)) (nq m [2,2] (!cond a ü (!eqD aM x.2.2.1 (x.2.2.1.1,ß,[],0,()))) (nq m [2,2,3] (!cond a ü (!eqD aM x.2.2.1 (x.2.2.1.1,ß,[],0,()))&&!j=0) (nm m 0 (!cond a ü (!eqD aM x.2.2.1 (x.2.2.1.1,ß,[],0,()))) (ii (!cond a ü (!eqD aM x.2.2.1 (x.2.2.1.1,ß,[],0,()))&&!j=0)&&ü) (nq m [0] (!cond a ü (!eqD aM x.2.2.1 (x.2.2.1.1,ß,[],0,()))) (cond (cond (cond a ü (!eqD aM x.2.2.1 (x.2.2.1.1,ß,[],0,()))) ü (cond (!j=0) (!j=x.2.2.1.1) ß)) (K 10) (cond (j=0) (cond (x.2.2.1.1=5) (f c x 4) (f c x 3)) g)))))))) (cl m tInt (ma s c.2.2.2.2.1 x.1) (λl=>cond (l=0) (K 7) (cl m .bool (ph l x.2.1 x.2.2.1) (λp=>cond (!p) (K 13) (K 0)))))))))))
def fO:aE Int:=kG ß ä
def i4:iY Int:=kH ß ä fO
def jA (s:ai.den)(c:tCommit.den)(x:aa.den):Option Int:=rO ß ä i4 fO s c x
def Gw:Ent:=evE (.cons ai (.cons tCommit (.cons aa .unit))) av (zero tInt) λx=>jA x.1 x.2.1 x.2.2.1
def HC:MS:=⟨3,[(0,[.drop]),(1,[.bb tInt,.bb (.slice tInt),.bb (.slice tInt),.bb .str,.bb (.slice aa)]),(2,[.bb tInt,.bb tInt,.bb tInt,.bb .bool,.bb .str,.bb tInt])],[(4,.keep),(5,.keep),(8,.bb tInt)]⟩
def Gy:Par:=⟨bE.tab,az [(146,eE),(148,Gc),(95,zD),(149,I1),(150,Ns),(64,qq)],λ_=>look [(11,HC),(14,bY)],λ_=>look []⟩
def Gz:KT:=bq bE.tab [.tmp 6] [tInt]
def mt:=h12 Gy f106
def oK (f:Nat):iY AV:=λc x g=>mt f 0 [1,1,1,0,1,0,1,0,1,0,1,1] ⟨mkE 98 [(4,.box 1 0),(5,.box 2 0),(8,.val tInt g)],mkH 3 [(0,.box [.unk]),(1,.box [.val tInt c.1,.val (.slice tInt) c.2.1,.val (.slice tInt) c.2.2.1,.val .str c.2.2.2.1,.val (.slice aa) c.2.2.2.2.1]),(2,.box [.val tInt x.1,.val tInt x.2.1,.val tInt x.2.2.1.1,.val .bool x.2.2.1.2.1,.val .str x.2.2.1.2.2.1,.val tInt x.2.2.1.2.2.2.1])]⟩ (aW 0 (ä bY) (mt f 0 [1,1,1,0,1,0,1,1]) (aW 0 ö (mt f 0 [1,1,1,1]) Gz))
def iZ (f:Nat):aE AV:=mt f 0 [1,1,1,0,1,0,1,1] ⟨mkE 98 [],mkH 0 []⟩ (aW 0 ö (mt f 0 [1,1,1,1]) Gz)
def HE (f:Nat):oK f=kH ü (sm av) (iZ f):=Φ
def HD (f:Nat):iZ f=kG ü (sm av):=Φ
def w8:iZ FU=mp0 av (fO):=(HD FU).trans (by simp only[kG,fO,ss])
def HF:oK FU=mp3 av (i4):=(HE FU).trans (by rw[w8];funext _ _ _;simp only[kH,i4,ss])
def Tf:aj prog 106 (Gw):=evX func106 (S:=Gy) ax (ag ⟨fW,SQ,Dn,XI,Zy,xk,apa⟩) (tys:=[tInt]) (λf x=>rO ü (sm av) (oK f) (iZ f) x.1 x.2.1 x.2.2.1) (λx=>by show _=Option.map av _;rw[HF,w8];simp only[rO,jA,ss])
def eS (m:Bool)(K:Bool→Option C)(f:bk C):bk C:=λl i=>let e:=ix aa l i;let c:=bd i l.length;let a:=w64 (i-1);let d:=ix aa l a;let b:=bd a l.length;cond (i<il l) (ck b (ck b (ck c (ck c (ce m .bool ü (uz d.1 d.2.1 e.1 e.2.1) (λr1=>cond (!r1) (K ß) (fz m tInt (w64 (i+1)) (λg=>f l g)))))))) (K ü)
def rn (m:Bool)(K:Bool→Option C)(f:bk C)(l:Υ):Option C:=f l 1
def io:Nat→bk Bool:=lp (λ_ _=>ö) λf=>eS ß ä f
def jt (l:Υ):Option Bool:=rn ß ä (io FU) l
def Fh:Ent:=evE (.cons (.slice aa) .unit) ae (zero .bool) λx=>jt x.1
def Fj:Par:=⟨bE.tab,az [(145,wq)],λ_=>look [],λ_=>look [(2,gr)]⟩
def Fk:=h12 Fj f105
def kC (f n:Nat):bk AV:=λl i=>aN 0 gr (Fk f 0 [1,0,1,0,0]) (ak 0 (aW 0 ö (Fk f 0 [1,1]) iF)) n ⟨mkE 34 [(0,.val (.slice aa) l),(3,.val tInt i)],mkH 0 []⟩
def La (f g:Nat):kC f (g+1)=eS ü (sm ae) (kC f g):=Φ
def Lb:∀n,kC FU n=mp2 ae (io n):=cq Φ λf _ h=>(La FU f).trans (by rw[h];funext _ _;simp only[eS,ss])
def R7:aj prog 105 (Fh):=evX func105 (S:=Fj) ax (ag ⟨Mz,apa⟩) (tys:=[.bool]) (λf x=>rn ü (sm ae) (kC f f) x.1) (λx=>by show _=Option.map ae _;rw[Lb FU];simp only[rn,jt,ss])
abbrev jB (C:Type):=ai.den→tCommit.den→Int→Option C
def mv (m:Bool)(K:Int→Option C)(f:jB C):jB C:=λs c i=>cond (i<il c.2.2.2.2.1) (ck (bd i c.2.2.2.2.1.length) (cl m tInt (jA s c (ix aa c.2.2.2.2.1 i)) (λj=>cond (!j=0) (K j) (fz m tInt (w64 (i+1)) (λg=>f s c g))))) (K 0)
def vT (m:Bool)(K:Int→Option C)(f:jB C)(s:ai.den)(c:tCommit.den):Option C:=cl m .bool (lX c) λr1=>cond (!r1) (K 5) (cl m .bool (jt c.2.2.2.2.1) (λg=>cond (!g) (K 12) (f s c 0)))
def nX:Nat→jB Int:=lp (λ_ _ _=>ö) λf=>mv ß ä f
def mw (s:ai.den)(c:tCommit.den):Option Int:=vT ß ä (nX FU) s c
def Jj:Ent:=evE (.cons ai (.cons tCommit .unit)) av (zero tInt) λx=>mw x.1 x.2.1
def Cw:MS:=⟨2,[(0,[.bb (.slice ah)]),(1,[.bb tInt,.bb (.slice tInt),.bb (.slice tInt),.bb .str,.bb (.slice aa)])],[(2,.keep),(3,.keep),(5,.bb tInt)]⟩
def Jl:Par:=⟨bE.tab,az [(104,IF),(105,Fh),(106,Gw)],λ_=>look [],λ_=>look [(6,Cw)]⟩
def Bl:KT:=bq bE.tab [.tmp 4] [tInt]
def Jm:=h12 Jl f56
def nW (f n:Nat):jB AV:=λs c i=>aN 0 Cw (Jm f 0 [1,1,1,0,1,0,0]) (ak 0 (aW 0 ö (Jm f 0 [1,1,1,1]) Bl)) n ⟨mkE 32 [(2,.box 0 0),(3,.box 1 0),(5,.val tInt i)],mkH 2 [(0,.box [.val (.slice ah) s.1]),(1,.box [.val tInt c.1,.val (.slice tInt) c.2.1,.val (.slice tInt) c.2.2.1,.val .str c.2.2.2.1,.val (.slice aa) c.2.2.2.2.1])]⟩
def PE (f g:Nat):nW f (g+1)=mv ü (sm av) (nW f g):=Φ
def PG:∀n,nW FU n=mp3 av (nX n):=cq Φ λf _ h=>(PE FU f).trans (by rw[h];funext _ _ _;simp only[mv,ss])
def X7:aj prog 56 (Jj):=evX func56 (S:=Jl) ax (ag ⟨WZ,R7,Tf,apa⟩) (tys:=[tInt]) (λf x=>vT ü (sm av) (nW f f) x.1 x.2.1) (λx=>by show _=Option.map av _;rw[PG FU];simp only[vT,mw,ss])
abbrev iu:=(Ty.den (.cons tCommit (.cons .bool .unit)))
abbrev my (C:Type):=Λ→Int→Int→Option C
def qd (m:Bool)(K:iu→Option C)(g:my C):my C:=λl f i=>let a:=bd i l.length;cond (i<il l) (ck a (cond ((ix tCommit l i).1=f) (ck a (K (ix tCommit l i,ü,()))) (fz m tInt (w64 (i+1)) (λj=>g l f j)))) (K ((0,[],[],[],[],()),ß,()))
def zY (m:Bool)(K:iu→Option C)(g:my C)(l:Λ)(f:Int):Option C:=g l f 0
def rR:Nat→my iu:=lp (λ_ _ _=>ö) λf=>qd ß ä f
def k7 (l:Λ)(f:Int):Option iu:=zY ß ä (rR FU) l f
def jD (r:iu):AV :=.tup (aY [.val tCommit r.1,.val .bool r.2.1])
def GD:Ent:=evE (.cons (.slice tCommit) (.cons tInt .unit)) jD (zero (.cons tCommit (.cons .bool .unit))) λx=>k7 x.1 x.2.1
def GC:MS:=⟨1,[(0,[.bb tInt,.own tInt 3,.own tInt 3,.bb .str,.own aa 44])],[(0,.bb (.slice tCommit)),(1,.bb tInt),(4,.keep),(6,.bb tInt)]⟩
def PL:Par:=⟨bE.tab,az [],λ_=>look [],λ_=>look [(2,GC)]⟩
def abT:KT:=bq bE.tab [.cell 4 38,.tmp 5] [tCommit,.bool]
def PN:=h12 PL f45
def rQ (f n:Nat):my AV:=λl g i=>aN 0 GC (PN f 0 [1,0,1,0,0]) (ak 0 (aW 0 ö (PN f 0 [1,1]) abT)) n ⟨mkE 25 [(0,.val (.slice tCommit) l),(1,.val tInt g),(4,.box 0 0),(6,.val tInt i)],mkH 4 [(0,.box [.val tInt (0:Int),.own 1 0 tInt [],.own 2 0 tInt [],.val .str [],.own 3 0 aa []]),(1,.row tInt 3 0),(2,.row tInt 3 0),(3,.row aa 44 0)]⟩
def Ti (f g:Nat):rQ f (g+1)=qd ü (sm jD) (rQ f g):=Φ
def Tj:∀n,rQ FU n=mp3 jD (rR n):=cq Φ λf _ h=>(Ti FU f).trans (by rw[h];funext _ _ _;simp only[qd,ss])
def PK:aj prog 45 (GD):=evX func45 (S:=PL) ax (ag trivial) (tys:=[tCommit,.bool]) (λf x=>zY ü (sm jD) (rQ f f) x.1 x.2.1) (λx=>by show _=Option.map jD _;rw[Tj FU];simp only[zY,k7,ss])
abbrev uv (C:Type):=Λ→(List Int)→Nat→(List Int)→Option C
def At (m:Bool)(K:(List Int)→Option C)(j:uv C):uv C:=λl out f g=>let b:=ni f-1;let c:=w64 b;let a:=List.getD g (0+Int.toNat c) (zero tInt);cond (ni f>0) (ck (0≤w64 b&&w64 b<ni f) (ck (0≤w64 b&&w64 b≤ni f) (cl m (.cons tCommit (.cons .bool .unit)) (k7 l a) (λr1=>nm m 2 (!!r1.2.1) (Cu out a) (nq m [0] (!!r1.2.1) (cond (cond (!r1.2.1) ü (p9 out a)) (fm m (0+Int.toNat c) (λp=>j l out p g)) (cl m (.slice tInt) (vo out a) (λJ=>ck (lm (0+Int.toNat c+List.length r1.1.2.1)) (fm m (0+Int.toNat c+List.length r1.1.2.1) (λp=>fz m (.slice tInt) (List.take (0+Int.toNat c) g++r1.1.2.1) λr=>j l J p r)))))))))) (K out)
def Mt (m:Bool)(K:(List Int)→Option C)(g:uv C)(l:Λ)(f:(List Int)):Option C:=ck (lm (0+List.length f)) (fm m (0+List.length f) (λp=>fz m (.slice tInt) (List.take 0 []++f) λj=>g l [] p j))
def As:Nat→uv (List Int):=lp (λ_ _ _ _=>ö) λf=>At ß ä f
def ol (l:Λ)(f:(List Int)):Option (List Int):=Mt ß ä (As FU) l f
def Mu:Ent:=evE (.cons (.slice tCommit) (.cons (.slice tInt) .unit)) aw (zero (.slice tInt)) λx=>ol x.1 x.2.1
def QH:MS:=⟨0,[],[(0,.bb (.slice tCommit)),(5,.bb (.slice tInt)),(6,.mut tInt 3)]⟩
def adi:Par:=⟨Nq.tab,az [(45,GD),(17,Bh),(19,R0)],λ_=>look [],λ_=>look [(3,QH)]⟩
def aiI:KT:=bq Nq.tab [.tmp 4] [(.slice tInt)]
def adj:=h12 adi f93
def Ar (g n:Nat):uv AV:=λl out f j=>aN 0 QH (adj g 0 [1,1,1,0,0,0]) (ak 0 (aW 0 ö (adj g 0 [1,1,1,1]) aiI)) n ⟨mkE 48 [(0,.val (.slice tCommit) l),(5,.val (.slice tInt) out),(6,.msl 0 0 0 f)],mkH 1 [(0,.cu tInt 3 0 j)]⟩
def adg (f g:Nat):Ar f (g+1)=At ü (sm aw) (Ar f g):=Φ
def adh:∀n,Ar FU n=mp4 aw (As n):=cq Φ λf _ h=>(adg FU f).trans (by rw[h];funext _ _ _ _;simp only[At,ss])
def TI:aj prog 93 (Mu):=evX func93 (S:=adi) Np (ag ⟨PK,Gr,aaj,apa⟩) (tys:=[(.slice tInt)]) (λf x=>Mt ü (sm aw) (Ar f f) x.1 x.2.1) (λx=>by show _=Option.map aw _;rw[adh FU];simp only[Mt,ol,ss])
def ajl (g:Λ)(f:(List Int)):Bool:=(ol g f).isSome
def agT (g:Λ)(f:(List Int)):(List Int):=(ol g f).getD (zero (.slice tInt))
def wg (m:Bool)(K:Bool→Option C)(l:Λ)(a:Int)(b:Int):Option C:=let d:=agT l [b];let c:Bool:=!a=b;nq m [1] c (nm m 2 c (ajl l [b]) (nm m 2 c (Cu d a) (nq m [1] c (K (cond c (p9 d a) ß)))))
def mO (l:Λ)(a:Int)(b:Int):Option Bool:=wg ß ä l a b
def JV:Ent:=evE (.cons (.slice tCommit) (.cons tInt (.cons tInt .unit))) ae (zero .bool) λx=>mO x.1 x.2.1 x.2.2.1
def YF:Par:=⟨bE.tab,az [(93,Mu),(17,Bh)],λ_=>look [],λ_=>look []⟩
def YE:aj prog 91 (JV):=evX func91 (S:=YF) ax (ag ⟨TI,Gr,apa⟩) (tys:=[.bool]) (λf x=>wg ü (sm ae) x.1 x.2.1 x.2.2.1) (λx=>by show _=Option.map ae _;simp only[wg,mO,ss])
abbrev b7 (C:Type):=Λ→(List Int)→(List Int)→Int→Option C
abbrev kP (C:Type):=Λ→(List Int)→(List Int)→Int→Bool→Int→Option C
abbrev V9 (C:Type):=Λ→(List Int)→(List Int)→Int→Int→Bool→Option C
abbrev We (C:Type):=Λ→(List Int)→Int→(List Int)→Option C
def sQ (m:Bool)(K:(List Int)→Option C)(g:kP C):b7 C:=λl f out i=>cond (i<il f) (ck (bd i f.length) (cl m (.cons tCommit (.cons .bool .unit)) (k7 l (ix tInt f i)) (λr1=>g l f out i r1.2.1 0))) (K out)
def pf (m:Bool)(K:(List Int)→Option C)(g:kP C):V9 C:=λl f out i p ok=>fz m tInt (w64 (p+1)) λj=>g l f out i ok j
def pg (m:Bool)(K:(List Int)→Option C)(g:b7 C):We C:=λl f i out=>fz m tInt (w64 (i+1)) λj=>g l f out j
def sO (m:Bool)(K:(List Int)→Option C)(g:kP C)(j:b7 C):kP C:=λl f out i ok p=>let b:=ix tInt f i;let a:=bd i f.length;nq m [2,3,1] ok (cond (cond ok (p<il f) ß) (ck a (ck (bd p f.length) (cl m .bool (mO l b (ix tInt f p)) (λJ=>cond J (pf m K g l f out i p ß) (pf m K g l f out i p ok))))) (cond ok (ck a (cl m (.slice tInt) (vo out b) (λr=>pg m K j l f i r))) (pg m K j l f i out)))
def CX (m:Bool)(K:(List Int)→Option C)(g:b7 C)(l:Λ)(f:(List Int)):Option C:=g l f [] 0
def pd (g:b7 (List Int)):Nat→kP (List Int):=lp (λ_ _ _ _ _ _=>ö) λf=>sO ß ä f g
def uS:Nat→b7 (List Int):=lp (λ_ _ _ _=>ö) λf=>sQ ß ä (pd f FU)
def sR (l:Λ)(f:(List Int)):Option (List Int):=CX ß ä (uS FU) l f
def TY:Ent:=evE (.cons (.slice tCommit) (.cons (.slice tInt) .unit)) aw (zero (.slice tInt)) λx=>sR x.1 x.2.1
def pa:MS:=⟨0,[],[(0,.bb (.slice tCommit)),(1,.bb (.slice tInt)),(5,.bb (.slice tInt)),(6,.bb tInt)]⟩
def AG:MS:=⟨0,[],[(0,.bb (.slice tCommit)),(1,.bb (.slice tInt)),(5,.bb (.slice tInt)),(6,.bb tInt),(8,.bb .bool),(9,.bb tInt)]⟩
def TZ:Par:=⟨bE.tab,az [(45,GD),(91,JV),(19,R0)],λ_=>look [(8,AG),(4,pa)],λ_=>look [(3,pa),(7,AG)]⟩
def qP:=h12 TZ f52
def pe (g n:Nat):b7 AV:=λl f out i=>aN 0 pa (qP g 0 [1,1,0,1,0,0]) (ak 0 (aW 0 ö (qP g 0 [1,1,1]) we)) n ⟨mkE 52 [(0,.val (.slice tCommit) l),(1,.val (.slice tInt) f),(5,.val (.slice tInt) out),(6,.val tInt i)],mkH 0 []⟩
def uR (f p n:Nat):kP AV:=λl g out i ok j=>aN 0 AG (qP f 0 [1,1,0,1,0,0,1,0,0,1,0,1,0,0]) (ak 2 (aW 0 ö (qP f 0 [1,1,0,1,0,0,1,0,0,1,1]) (ak 1 (aW 0 (ä pa) (qP f 0 [1,1,0,1,0,0,1,1]) (kLp 0 pa (qP f 0 [1,1,0,1,0,0]) (ak 0 (aW 0 ö (qP f 0 [1,1,1]) we)) p))))) n ⟨mkE 52 [(0,.val (.slice tCommit) l),(1,.val (.slice tInt) g),(5,.val (.slice tInt) out),(6,.val tInt i),(8,.val .bool ok),(9,.val tInt j)],mkH 0 []⟩
def Wh (f g:Nat):pe f (g+1)=sQ ü (sm aw) (uR f g f):=Φ
def Wf (f g j:Nat):uR f g (j+1)=sO ü (sm aw) (uR f g j) (pe f g):=Φ
def Wg (j:Nat){f:b7 (List Int)}(g:pe FU j=mp4 aw f):∀n,uR FU j n=mp6 aw (pd f n):=cq Φ λl _ h=>(Wf FU j l).trans (by rw[h,g];funext _ _ _ _ _ _;simp only[sO,pg,pf,ss])
def Wi:∀n,pe FU n=mp4 aw (uS n):=cq Φ λf _ h=>(Wh FU f).trans (by rw[Wg f h FU];funext _ _ _ _;simp only[sQ,pg,pf,ss])
def adF:aj prog 52 (TY):=evX func52 (S:=TZ) ax (ag ⟨PK,YE,aaj,apa⟩) (tys:=[(.slice tInt)]) (λf x=>CX ü (sm aw) (pe f f) x.1 x.2.1) (λx=>by show _=Option.map aw _;rw[Wi FU];simp only[CX,sR,pg,pf,ss])
abbrev dL (C:Type):=Λ→(List Int)→Int→Option C
abbrev mi (C:Type):=Λ→(List Int)→Int→Bool→Int→Option C
abbrev S6 (C:Type):=Λ→Int→(List Int)→Option C
def p7 (m:Bool)(K:(List Int)→Option C)(f:mi C):dL C:=λl out i=>cond (i<il l) (f l out i ü 0) (K out)
def k6 (m:Bool)(K:(List Int)→Option C)(f:dL C):S6 C:=λl i out=>fz m tInt (w64 (i+1)) λg=>f l out g
def pZ (m:Bool)(K:(List Int)→Option C)(g:mi C)(f:dL C):mi C:=λl out i head j=>let c:=bd i l.length;let b:=ix tCommit l j;let a:=ix tCommit l i;cond (j<il l) (nm m 2 head (bd j l.length) (nq m [2,2] head (nm m 2 head c (nq m [2,2] head (nm m 2 head (Cu b.2.1 a.1) (nq m [2,1] head (fz m .bool (cond head (!p9 b.2.1 a.1) ß) (λr=>fz m tInt (w64 (j+1)) λp=>g l out i r p)))))))) (cond head (ck c (ck (lm (List.length out+List.length ([a.1]:List Int))) (fz m (.slice tInt) (out++[a.1]) (λJ=>k6 m K f l i J)))) (k6 m K f l i out))
def zL (m:Bool)(K:(List Int)→Option C)(f:dL C)(l:Λ):Option C:=f l [] 0
def ml (g:dL (List Int)):Nat→mi (List Int):=lp (λ_ _ _ _ _=>ö) λf=>pZ ß ä f g
def rL:Nat→dL (List Int):=lp (λ_ _ _=>ö) λf=>p7 ß ä (ml f FU)
def p8 (l:Λ):Option (List Int):=zL ß ä (rL FU) l
def Ps:Ent:=evE (.cons (.slice tCommit) .unit) aw (zero (.slice tInt)) λx=>p8 x.1
def mj:MS:=⟨0,[],[(0,.bb (.slice tCommit)),(3,.own tInt 3),(4,.bb tInt)]⟩
def Gq:MS:=⟨0,[],[(0,.bb (.slice tCommit)),(3,.own tInt 3),(4,.bb tInt),(5,.bb .bool),(6,.bb tInt)]⟩
def Pt:Par:=⟨bE.tab,az [(17,Bh)],λ_=>look [(4,mj)],λ_=>look [(3,mj),(7,Gq)]⟩
def mo:=h12 Pt f151
def mn (f n:Nat):dL AV:=λl out i=>aN 0 mj (mo f 0 [1,1,0,1,0,0]) (ak 0 (aW 0 ö (mo f 0 [1,1,1]) LJ)) n ⟨mkE 44 [(0,.val (.slice tCommit) l),(3,.own 0 0 tInt out),(4,.val tInt i)],mkH 1 [(0,.row tInt 3 0)]⟩
def rK (f j n:Nat):mi AV:=λl out i head g=>aN 0 Gq (mo f 0 [1,1,0,1,0,0,1,0,0,1,0,1,0,0]) (ak 2 (aW 0 ö (mo f 0 [1,1,0,1,0,0,1,0,0,1,1]) (ak 1 (aW 0 (ä mj) (mo f 0 [1,1,0,1,0,0,1,1]) (kLp 0 mj (mo f 0 [1,1,0,1,0,0]) (ak 0 (aW 0 ö (mo f 0 [1,1,1]) LJ)) j))))) n ⟨mkE 44 [(0,.val (.slice tCommit) l),(3,.own 0 0 tInt out),(4,.val tInt i),(5,.val .bool head),(6,.val tInt g)],mkH 1 [(0,.row tInt 3 0)]⟩
def S9 (f g:Nat):mn f (g+1)=p7 ü (sm aw) (rK f g f):=Φ
def S7 (f g j:Nat):rK f g (j+1)=pZ ü (sm aw) (rK f g j) (mn f g):=Φ
def S8 (j:Nat){f:dL (List Int)}(g:mn FU j=mp3 aw f):∀n,rK FU j n=mp5 aw (ml f n):=cq Φ λl _ h=>(S7 FU j l).trans (by rw[h,g];funext _ _ _ _ _;simp only[pZ,k6,ss])
def Ta:∀n,mn FU n=mp3 aw (rL n):=cq Φ λf _ h=>(S9 FU f).trans (by rw[S8 f h FU];funext _ _ _;simp only[p7,k6,ss])
def abw:aj prog 151 (Ps):=evX func151 (S:=Pt) ax (ag ⟨Gr,apa⟩) (tys:=[(.slice tInt)]) (λf x=>zL ü (sm aw) (mn f f) x.1) (λx=>by show _=Option.map aw _;rw[Ta FU];simp only[zL,p8,k6,ss])
def mY (m:Bool)(K:Bool→Option C)(c:tCommit.den)(id:Int)(field:Int):Option C:=cl m (.cons aM (.cons .bool .unit)) (eC c.2.2.2.2.1 id field) λr1=>K r1.2.1
def fb (c:tCommit.den)(id:Int)(field:Int):Option Bool:=mY ß ä c id field
def BN:Ent:=evE (.cons tCommit (.cons tInt (.cons tInt .unit))) ae (zero .bool) λx=>fb x.1 x.2.1 x.2.2.1
def MJ:Par:=⟨bE.tab,az [(64,qq)],λ_=>look [],λ_=>look []⟩
def MI:aj prog 140 (BN):=evX func140 (S:=MJ) ax (ag ⟨xk,apa⟩) (tys:=[.bool]) (λf x=>mY ü (sm ae) x.1 x.2.1 x.2.2.1) (λx=>by show _=Option.map ae _;simp only[mY,fb,ss])
abbrev gy (C:Type):=Λ→(List Int)→Λ→(List (List Int))→Int→Option C
abbrev N7 (C:Type):=Λ→(List Int)→Int→Λ→(List (List Int))→Option C
abbrev bF (C:Type):=Λ→(List (List Int))→Int→(List ah.den)→Option C
abbrev bT (C:Type):=Λ→(List (List Int))→Int→Int→(List ah.den)→Option C
abbrev gZ (C:Type):=Λ→(List (List Int))→Int→Int→(List ah.den)→Bool→Int→Option C
def eQ (m:Bool)(K:ai.den→Option C)(j:gy C):N7 C:=λl r i f g=>fz m tInt (w64 (i+1)) λp=>j l r f g p
def lU (m:Bool)(K:ai.den→Option C)(j:gy C)(J:bF C):gy C:=λl p f g i=>let b:=ix tCommit l i;let a:=bd i l.length;cond (i<il l) (ck a (cl m .bool (rM p b.1) (λr1=>cond r1 (ck a (ck (lm (List.length f+List.length ([ix tCommit l i]:List tCommit.den))) (ck a (cl m (.slice tInt) (ol l [b.1]) (λR=>ck (lm (List.length g+List.length ([R]:List (List Int)))) (fz m (.slice tCommit) (f++[ix tCommit l i]) (λP=>fz m (.slice (.slice tInt)) (g++[R]) λr=>eQ m K j l p i P r))))))) (eQ m K j l p i f g)))) (J f g 0 [])
def jp (m:Bool)(K:ai.den→Option C)(j:bT C):bF C:=λf l i g=>cond (i<il f) (j f l i 0 g) (K (g,()))
def jo (m:Bool)(K:ai.den→Option C)(p:gZ C)(J:bF C):bT C:=λf g i l j=>let b:=bd i f.length;let a:=ix tCommit f i;ck b (cond (l<il a.2.2.2.2.1) (ck b (ck (bd l a.2.2.2.2.1.length) (p f g i l j ü 0))) (fz m tInt (w64 (i+1)) (λr=>J f g r j)))
def dw (m:Bool)(K:ai.den→Option C)(g:bT C):bT C:=λf j i r l=>fz m tInt (w64 (r+1)) λp=>g f j i p l
def DQ (j:tCommit.den)(g:Int)(f:Int):Bool:=(fb j g f).isSome
def eD (j:tCommit.den)(g:Int)(f:Int):Bool:=(fb j g f).getD (zero .bool)
def jn (m:Bool){C:Type}(K:ai.den→Option C)(k_l19:gZ C)(k_l14:bT C):gZ C:=λthese above i t10 b7_0 alive j=>nq m [1] (j<il these) (cond (cond (j<il these) alive ß) (nm m 2 (!j=i) (bd j these.length) (nq m [2,2,2] (!j=i) (nm m 3 (!j=i) (DQ (ix tCommit these j) (ix aa (ix tCommit these i).2.2.2.2.1 t10).1 (ix aa (ix tCommit these i).2.2.2.2.1 t10).2.1) (nq m [2,0] (!j=i) (nm m 2 (!cond (j=i) ü (!eD (ix tCommit these j) (ix aa (ix tCommit these i).2.2.2.2.1 t10).1 (ix aa (ix tCommit these i).2.2.2.2.1 t10).2.1)) (bd j above.length) (nq m [2] (!cond (j=i) ü (!eD (ix tCommit these j) (ix aa (ix tCommit these i).2.2.2.2.1 t10).1 (ix aa (ix tCommit these i).2.2.2.2.1 t10).2.1)) (nm m 2 (!cond (j=i) ü (!eD (ix tCommit these j) (ix aa (ix tCommit these i).2.2.2.2.1 t10).1 (ix aa (ix tCommit these i).2.2.2.2.1 t10).2.1)) (bd i these.length) (nq m [2,2] (!cond (j=i) ü (!eD (ix tCommit these j) (ix aa (ix tCommit these i).2.2.2.2.1 t10).1 (ix aa (ix tCommit these i).2.2.2.2.1 t10).2.1)) (nm m 2 (!cond (j=i) ü (!eD (ix tCommit these j) (ix aa (ix tCommit these i).2.2.2.2.1 t10).1 (ix aa (ix tCommit these i).2.2.2.2.1 t10).2.1)) (Cu (ix (.slice tInt) above j) (ix tCommit these i).1) (nq m [2,0] (!cond (j=i) ü (!eD (ix tCommit these j) (ix aa (ix tCommit these i).2.2.2.2.1 t10).1 (ix aa (ix tCommit these i).2.2.2.2.1 t10).2.1)) (fz m .bool (cond (cond (j=i) ü (!eD (ix tCommit these j) (ix aa (ix tCommit these i).2.2.2.2.1 t10).1 (ix aa (ix tCommit these i).2.2.2.2.1 t10).2.1)) ü (!p9 (ix (.slice tInt) above j) (ix tCommit these i).1)) (λy5_=>fz m tInt (w64 (j+1)) λy6_=>k_l19 these above i t10 b7_0 y5_ y6_)))))))))))) (cond alive (ce m (.slice eG) (cj (b7_0,()) (ix aa (ix tCommit these i).2.2.2.2.1 t10).1 (ix aa (ix tCommit these i).2.2.2.2.1 t10).2.1) (iw (b7_0,()) (ix aa (ix tCommit these i).2.2.2.2.1 t10).1 (ix aa (ix tCommit these i).2.2.2.2.1 t10).2.1) (λr3=>ck (lm (List.length ([]:List eG.den)+List.length r3)) (ck (bd i these.length) (ck (lm (List.length ([]++r3)+List.length ([((ix tCommit these i).1,(ix aa (ix tCommit these i).2.2.2.2.1 t10).2.2.1,())]:List eG.den))) (ce m ai (ad0 (b7_0,()) (ix aa (ix tCommit these i).2.2.2.2.1 t10).1 (ix aa (ix tCommit these i).2.2.2.2.1 t10).2.1 ([]++r3++[((ix tCommit these i).1,(ix aa (ix tCommit these i).2.2.2.2.1 t10).2.2.1,())])) (oD (b7_0,()) (ix aa (ix tCommit these i).2.2.2.2.1 t10).1 (ix aa (ix tCommit these i).2.2.2.2.1 t10).2.1 ([]++r3++[((ix tCommit these i).1,(ix aa (ix tCommit these i).2.2.2.2.1 t10).2.2.1,())])) (λr4=>dw m K k_l14 these above i t10 r4.1)))))) (dw m K k_l14 these above i t10 b7_0)))
def vj (m:Bool)(K:ai.den→Option C)(f:gy C)(l:Λ)(g:(List Int)):Option C:=f l g [] [] 0
def g8 (J:bF ai.den)(g:bT ai.den):Nat→gZ ai.den:=lp (λ_ _ _ _ _ _ _=>ö) λf=>jn ß ä f g
def hO (J:bF ai.den):Nat→bT ai.den:=lp (λ_ _ _ _ _=>ö) λf=>jo ß ä (g8 J f FU) J
def hZ:Nat→bF ai.den:=lp (λ_ _ _ _=>ö) λJ=>jp ß ä (hO J FU)
def jm:Nat→gy ai.den:=lp (λ_ _ _ _ _=>ö) λf=>lU ß ä f (hZ FU)
def lV (l:Λ)(f:(List Int)):Option ai.den:=vj ß ä (jm FU) l f
def bj (r:ai.den):AV :=.val ai r
def Iy:Ent:=evE (.cons (.slice tCommit) (.cons (.slice tInt) .unit)) bj (zero ai) λx=>lV x.1 x.2.1
def tp:MS:=⟨1,[(0,[.bb (.slice ah)])],[(0,.bb (.slice tCommit)),(1,.bb (.slice tInt)),(4,.keep),(5,.own tCommit 38),(6,.own (.slice tInt) 23),(7,.bb tInt)]⟩
def kx:MS:=⟨8,[(0,[.bb (.slice ah)]),(7,[.bb (.slice ah)])],[(4,.keep),(5,.own tCommit 38),(6,.own (.slice tInt) 23),(8,.keep),(9,.bb tInt)]⟩
def g7:MS:=⟨8,[(0,[.bb (.slice ah)]),(7,[.bb (.slice ah)])],[(4,.keep),(5,.own tCommit 38),(6,.own (.slice tInt) 23),(8,.keep),(9,.bb tInt),(10,.bb tInt)]⟩
def yP:MS:=⟨27,[(0,[.bb (.slice ah)]),(7,[.bb (.slice ah)]),(26,[.bb tInt,.bb tInt,.bb tInt,.bb .bool,.bb .str,.bb tInt])],[(4,.keep),(5,.own tCommit 38),(6,.own (.slice tInt) 23),(8,.keep),(9,.bb tInt),(10,.bb tInt),(11,.keep),(12,.bb .bool),(13,.bb tInt)]⟩
def Iz:Par:=⟨bE.tab,az [(17,Bh),(93,Mu),(140,BN),(141,DH),(142,Rx)],λ_=>look [(5,tp),(15,g7)],λ_=>look [(4,tp),(11,kx),(14,g7),(19,yP)]⟩
def vk:KT:=bq bE.tab [.cell 4 96] [ai]
def bP:=h12 Iz f92
def nJ (f n:Nat):gy AV:=λl p g j i=>aN 0 tp (bP f 0 [1,1,1,0,1,0,0]) (ak 0 (aW 0 ö (bP f 0 [1,1,1,1]) vk)) n ⟨mkE 134 [(0,.val (.slice tCommit) l),(1,.val (.slice tInt) p),(4,.box 0 0),(5,.own 1 0 tCommit g),(6,.own 2 0 (.slice tInt) j),(7,.val tInt i)],mkH 3 [(0,.box [.val (.slice ah) []]),(1,.row tCommit 38 0),(2,.row (.slice tInt) 23 0)]⟩
def fh (f n:Nat):bF AV:=λg j i l=>aN 0 kx (bP f 0 [1,1,1,1,1,0,1,0,0]) (ak 2 (aW 0 ö (bP f 0 [1,1,1,1,1,1]) vk)) n ⟨mkE 134 [(4,.box 0 0),(5,.own 8 0 tCommit g),(6,.own 9 0 (.slice tInt) j),(8,.box 7 0),(9,.val tInt i)],mkH 10 [(0,.box [.val (.slice ah) []]),(1,.row tCommit 38 1),(2,.row (.slice tInt) 23 1),(7,.box [.val (.slice ah) l]),(8,.row tCommit 38 0),(9,.row (.slice tInt) 23 0)]⟩
def g9 (f r n:Nat):bT AV:=λg j i p l=>aN 0 g7 (bP f 0 [1,1,1,1,1,0,1,0,0,1,0,0,1,0,0]) (ak 4 (ak 3 (aW 0 ö (bP f 0 [1,1,1,1,1,0,1,0,0,1,1]) (kLp 0 kx (bP f 0 [1,1,1,1,1,0,1,0,0]) (ak 2 (aW 0 ö (bP f 0 [1,1,1,1,1,1]) vk)) r)))) n ⟨mkE 134 [(4,.box 0 0),(5,.own 8 0 tCommit g),(6,.own 9 0 (.slice tInt) j),(8,.box 7 0),(9,.val tInt i),(10,.val tInt p)],mkH 10 [(0,.box [.val (.slice ah) []]),(1,.row tCommit 38 1),(2,.row (.slice tInt) 23 1),(7,.box [.val (.slice ah) l]),(8,.row tCommit 38 0),(9,.row (.slice tInt) 23 0)]⟩
def ky (f P J n:Nat):gZ AV:=λg p i r C l j=>let a:=ix aa (ix tCommit g i).2.2.2.2.1 r;aN 0 yP (bP f 0 [1,1,1,1,1,0,1,0,0,1,0,0,1,0,0,1,0,0,1,1,0,1,0,0]) (ak 6 (aW 0 ö (bP f 0 [1,1,1,1,1,0,1,0,0,1,0,0,1,0,0,1,0,0,1,1,1]) (ak 5 (aW 0 (ä g7) (bP f 0 [1,1,1,1,1,0,1,0,0,1,0,0,1,0,0,1,1]) (kLp 0 g7 (bP f 0 [1,1,1,1,1,0,1,0,0,1,0,0,1,0,0]) (ak 4 (ak 3 (aW 0 ö (bP f 0 [1,1,1,1,1,0,1,0,0,1,1]) (kLp 0 kx (bP f 0 [1,1,1,1,1,0,1,0,0]) (ak 2 (aW 0 ö (bP f 0 [1,1,1,1,1,1]) vk)) P)))) J))))) n ⟨mkE 134 [(4,.box 0 0),(5,.own 27 0 tCommit g),(6,.own 28 0 (.slice tInt) p),(8,.box 7 0),(9,.val tInt i),(10,.val tInt r),(11,.box 26 0),(12,.val .bool l),(13,.val tInt j)],mkH 29 [(0,.box [.val (.slice ah) []]),(1,.row tCommit 38 1),(2,.row (.slice tInt) 23 1),(7,.box [.val (.slice ah) C]),(8,.row tCommit 38 1),(9,.row (.slice tInt) 23 1),(26,.box [.val tInt a.1,.val tInt a.2.1,.val tInt a.2.2.1.1,.val .bool a.2.2.1.2.1,.val .str a.2.2.1.2.2.1,.val tInt a.2.2.1.2.2.2.1]),(27,.row tCommit 38 0),(28,.row (.slice tInt) 23 0)]⟩
def N8 (f g:Nat):nJ f (g+1)=lU ü (sm bj) (nJ f g) (fh f f):=Φ
def KU (f g:Nat):fh f (g+1)=jp ü (sm bj) (g9 f g f):=Φ
def KR (f g j:Nat):g9 f g (j+1)=jo ü (sm bj) (ky f g j f) (fh f g):=Φ
def KP (f j g l:Nat):ky f j g (l+1)=jn ü (sm bj) (ky f j g l) (g9 f j g):=Φ
variable{J:bF ai.den}
def KQ (g j:Nat)(r:fh FU g=mp4 bj J){f:bT ai.den}(l:g9 FU g j=mp5 bj f):∀n,ky FU g j n=mp7 bj (g8 J f n):=cq Φ λp _ h=>(KP FU g j p).trans (by rw[h,l];funext _ _ _ _ _ _ _;simp only[jn,dw,eQ,ss])
def KS (g:Nat)(f:fh FU g=mp4 bj J):∀n,g9 FU g n=mp5 bj (hO J n):=cq Φ λj _ h=>(KR FU g j).trans (by rw[KQ g j f h FU,f];funext _ _ _ _ _;simp only[jo,dw,eQ,ss])
def KV:∀n,fh FU n=mp4 bj (hZ n):=cq Φ λf _ h=>(KU FU f).trans (by rw[KS f h FU];funext _ _ _ _;simp only[jp,dw,eQ,ss])
def N9:∀n,nJ FU n=mp5 bj (jm n):=cq Φ λf _ h=>(N8 FU f).trans (by rw[h,KV FU];funext _ _ _ _ _;simp only[lU,dw,eQ,ss])
def WT:aj prog 92 (Iy):=evX func92 (S:=Iz) ax (ag ⟨Gr,TI,MI,Mv,ahh,apa⟩) (tys:=[ai]) (λf x=>vj ü (sm bj) (nJ f f) x.1 x.2.1) (λx=>by show _=Option.map bj _;rw[N9 FU];simp only[vj,lV,dw,eQ,ss])
def DG (m:Bool)(K:ai.den→Option C)(l:Λ)(f:(List Int)):Option C:=cl m (.slice tInt) (ol l f) λr1=>cl m ai (lV l r1) λg=>K g
def qk (l:Λ)(f:(List Int)):Option ai.den:=DG ß ä l f
def Mp:Ent:=evE (.cons (.slice tCommit) (.cons (.slice tInt) .unit)) bj (zero ai) λx=>qk x.1 x.2.1
def agb:Par:=⟨bE.tab,az [(93,Mu),(92,Iy)],λ_=>look [],λ_=>look []⟩
def Vy:aj prog 53 (Mp):=evX func53 (S:=agb) ax (ag ⟨TI,WT,apa⟩) (tys:=[ai]) (λf x=>DG ü (sm bj) x.1 x.2.1) (λx=>by show _=Option.map bj _;simp only[DG,qk,ss])
def CU (m:Bool)(K:Str→Option C)(f:Int)(x:Int):Option C:=let a:=cond (f=1) ü (f=3);nq m [2,0] (!f=1) (cl m tInt (mod2_ev x 5) (λr1=>cond (r1=0) (cond a (K [77]) (K [102])) (cond (r1=1) (cond a (K [78]) (K [103])) (cond (r1=2) (cond a (K [84]) (K [120])) (cond (r1=3) (cond a (K [65,98,49]) (K [121])) (cond a (K [81]) (K [107,95,50])))))))
def ja (f:Int)(x:Int):Option Str:=CU ß ä f x
def kc (r:Str):AV :=.val .str r
def Kl:Ent:=evE (.cons tInt (.cons tInt .unit)) kc (zero .str) λx=>ja x.1 x.2.1
def CW:Par:=⟨bE.tab,az [(18,tH)],λ_=>look [],λ_=>look []⟩
def TS:aj prog 96 (Kl):=evX func96 (S:=CW) ax (ag ⟨mod2_x,apa⟩) (tys:=[.str]) (λf x=>CU ü (sm kc) x.1 x.2.1) (λx=>by show _=Option.map kc _;simp only[CU,ja,ss])
def uQ (m:Bool)(K:Str→Option C)(x:Int):Option C:=cl m tInt (mod2_ev x 5) λr1=>cond (r1=0) (K [32]) (cond (r1=1) (K [10]) (cond (r1=2) (K [32,35,32,110,111,116,101,10]) (cond (r1=3) (K []) (K [9,32,32]))))
def lF (x:Int):Option Str:=uQ ß ä x
def Ig:Ent:=evE (.cons tInt .unit) kc (zero .str) λx=>lF x.1
def V6:aj prog 99 (Ig):=evX func99 (S:=CW) ax (ag ⟨mod2_x,apa⟩) (tys:=[.str]) (λf x=>uQ ü (sm kc) x.1) (λx=>by show _=Option.map kc _;simp only[uQ,lF,ss])
def LB (m:Bool)(K:Str→Option C)(x:Int):Option C:=cl m tInt (mod2_ev x 26) λr1=>ck (!(26:Int)=0) (cl m tInt (mod2_ev (w64 (Int.tdiv x 26)) 25) (λf=>K (List.map (λn : Int=>UInt8.ofNat n.toNat) [IntKind.wrap .u8 (w64 ((97:Int)+r1)),IntKind.wrap .u8 (w64 ((98:Int)+f))])))
def rB (x:Int):Option Str:=LB ß ä x
def aa8:Ent:=evE (.cons tInt .unit) kc (zero .str) λx=>rB x.1
def ahV:aj prog 100 (aa8):=evX func100 (S:=CW) ax (ag ⟨mod2_x,apa⟩) (tys:=[.str]) (λf x=>LB ü (sm kc) x.1) (λx=>by show _=Option.map kc _;simp only[LB,rB,ss])
abbrev dX (C:Type):=Int→ai.den→(List Int)→Int→Option C
abbrev HH (C:Type):=Int→Int→ai.den→(List Int)→Option C
def fq (m:Bool)(K:(List Int)→Option C)(g:dX C):HH C:=λf i s out=>fz m tInt (w64 (i+1)) λj=>g f s out j
def ahT (g:ai.den)(f:Int):Bool:=(fK g f).isSome
def ahU (g:ai.den)(f:Int):Int:=(fK g f).getD (zero tInt)
def dM (m:Bool)(K:(List Int)→Option C)(g:dX C):dX C:=λf s out i=>let b:=bd i s.1.length;let a:=ix ah s.1 i;cond (i<il s.1) (ck b (nq m [2,2] (a.2.1=1) (nq m [2] (a.2.1=1&&!f=0) (nm m 2 (a.2.1=1&&!f=0) b (nq m [2,2] (a.2.1=1&&!f=0) (nm m 2 (a.2.1=1&&!f=0) (ahT s a.1) (nq m [3] (a.2.1=1&&!f=0) (nm m 0 (a.2.1=1) (ii (a.2.1=1&&!f=0)) (nq m [1] (a.2.1=1) (cond (cond (a.2.1=1) (cond (f=0) ü (ahU s a.1=f)) ß) (ck b (ck (lm (List.length out+List.length ([a.1]:List Int))) (fz m (.slice tInt) (out++[a.1]) (λj=>fq m K g f i s j)))) (fq m K g f i s out))))))))))) (K out)
def jF (m:Bool)(K:(List Int)→Option C)(g:dX C)(s:ai.den)(f:Int):Option C:=g f s [] 0
def dY:Nat→dX (List Int):=lp (λ_ _ _ _=>ö) λf=>dM ß ä f
def aB (s:ai.den)(f:Int):Option (List Int):=jF ß ä (dY FU) s f
def jG:Nw:=nwE tInt (.cons ai (.cons tInt .unit)) 3 λx=>aB x.1 x.2.1
def oL:MS:=⟨1,[(0,[.bb (.slice ah)])],[(1,.bb tInt),(2,.keep),(5,.own tInt 3),(6,.bb tInt)]⟩
def CG:Par:=⟨bE.tab,az [(95,zD)],λ_=>look [(4,oL)],λ_=>look [(3,oL)]⟩
def PY:KT:=aad bE.tab [.tmp 4] tInt 3
def CH:=h12 CG f59
def i5 (f n:Nat):dX AV:=λg s out i=>aN 0 oL (CH f 0 [1,1,0,1,0,0]) (ak 0 (aW 0 ö (CH f 0 [1,1,1]) PY)) n ⟨mkE 47 [(1,.val tInt g),(2,.box 0 0),(5,.own 1 0 tInt out),(6,.val tInt i)],mkH 2 [(0,.box [.val (.slice ah) s.1]),(1,.row tInt 3 0)]⟩
def HJ (f g:Nat):i5 f (g+1)=dM ü (sm aw) (i5 f g):=Φ
def HK:∀n,i5 FU n=mp4 aw (dY n):=cq Φ λf _ h=>(HJ FU f).trans (by rw[h];funext _ _ _ _;simp only[dM,fq,ss])
def nZ:TN prog 59 (jG):=nwX func59 (S:=CG) ax (ag ⟨Dn,apa⟩) (λf x=>jF ü (sm aw) (i5 f f) x.1 x.2.1) (λx=>by show _=Option.map aw _;rw[HK FU];simp only[jF,aB,fq,ss])
def De (m:Bool)(K:Int→Option C)(l:(List Int))(x:Int):Option C:=cond (il l=0) (K 0) (cl m tInt (mod2_ev x (il l)) (λr1=>ck (bd r1 l.length) (K (ix tInt l r1))))
def aZ (l:(List Int))(x:Int):Option Int:=De ß ä l x
def zf:Ent:=evE (.cons (.slice tInt) (.cons tInt .unit)) av (zero tInt) λx=>aZ x.1 x.2.1
def Dd:aj prog 60 (zf):=evX func60 (S:=CW) ax (ag ⟨mod2_x,apa⟩) (tys:=[tInt]) (λf x=>De ü (sm av) x.1 x.2.1) (λx=>by show _=Option.map av _;simp only[De,aZ,ss])
def Dc (m:Bool)(K:aM.den→Option C)(s:ai.den)(id:Int)(field:Int):Option C:=ce m (.slice eG) (cj s id field) (iw s id field) λr1=>cond (il r1=0) (K (0,ß,[],0,())) (ck (bd 0 r1.length) (K (ix eG r1 0).2.1))
def fH (s:ai.den)(id:Int)(field:Int):Option aM.den:=Dc ß ä s id field
def Uq:Ent:=evE (.cons ai (.cons tInt (.cons tInt .unit))) cQ (zero aM) λx=>fH x.1 x.2.1 x.2.2.1
def ad8:aj prog 98 (Uq):=evX func98 (S:=UR) ax (ag ⟨Mv,apa⟩) (tys:=[aM]) (λf x=>Dc ü (sm cQ) x.1 x.2.1 x.2.2.1) (λx=>by show _=Option.map cQ _;simp only[Dc,fH,ss])
def uZ (m:Bool)(K:aM.den→Option C)(v:aM.den)(s:ai.den)(x:Int):Option C:=let b:=w64 (Int.tdiv x 4);let a:=w64 (Int.tdiv x 6);nq m [2,2,1] (v.1≥5) (cond (cond (v.1≥5) (v.1≤9) ß) (cl m tInt (mod2_ev x 4) (λr1=>cond (r1=0) (K (5,ß,[],0,())) (cond (r1=1) (K (6,ß,[],0,())) (cond (r1=2) (ck (!(4:Int)=0) (cl m .str (ja 3 b) (λJ=>K (9,ß,J,0,())))) (cl m (.slice tInt) (aB s 3) (λr=>ck (!(4:Int)=0) (cl m tInt (aZ r b) (λj=>cond (!j=0) (K (9,ß,[],j,())) (K (7,ß,[],0,())))))))))) (cond (v.1=21) (cl m tInt (mod2_ev x 2) (λp=>cond (p=0) (K (21,ß,[42],0,())) (K (21,ß,[60],0,())))) (cond (v.1=20) (cl m .str (ja 2 x) (λl=>K (20,ß,l,0,()))) (cl m tInt (mod2_ev x 6) (λf=>cond (f=0) (K (10,ß,[51],0,())) (cond (f=1) (K (11,ß,[34,115,34],0,())) (cond (f=2) (cl m (.slice tInt) (aB s 4) (λr8=>ck (!(6:Int)=0) (cl m tInt (aZ r8 a) (λr9=>cond (!r9=0) (K (12,ß,[],r9,())) (K (12,ß,[122],0,())))))) (cond (f=3) (cl m (.slice tInt) (aB s 2) (λr10=>ck (!(6:Int)=0) (cl m tInt (aZ r10 a) (λr11=>cond (!r11=0) (ck (!(6:Int)=0) (cl m tInt (mod2_ev a 3) (λg=>K (16,decide (g=0),[],r11,())))) (K (16,ß,[77,46,102],0,())))))) (cond (f=4) (K (10,ß,[49,50],0,())) (K (13,ß,[],0,())))))))))))
def eJ (v:aM.den)(s:ai.den)(x:Int):Option aM.den:=uZ ß ä v s x
def In:Ent:=evE (.cons aM (.cons ai (.cons tInt .unit))) cQ (zero aM) λx=>eJ x.1 x.2.1 x.2.2.1
def WB:Par:=⟨bE.tab,Et [(18,tH),(96,Kl),(60,zf)] [] [] [] [(59,jG)],λ_=>look [],λ_=>look []⟩
def Wz:aj prog 97 (In):=evX func97 (S:=WB) ax (uX ⟨mod2_x,TS,Dd,apa⟩ trivial trivial trivial ⟨nZ,apa⟩) (tys:=[aM]) (λf x=>uZ ü (sm cQ) x.1 x.2.1 x.2.2.1) (λx=>by show _=Option.map cQ _;simp only[uZ,eJ,ss])
abbrev cv (C:Type):=Υ→Nat→Int→Υ→Option C
abbrev je (C:Type):=Υ→Int→Nat→Int→Υ→Option C
abbrev Ky (C:Type):=Υ→Int→Int→Nat→Int→Υ→Option C
abbrev NH (C:Type):=Υ→Int→Nat→Υ→Option C
def lJ (m:Bool)(K:bw→Option C)(g:je C):cv C:=λl f i out=>cond (i<il l) (fz m tInt (ni f) (λj=>g l i f j out)) (K ((List.take f out).drop 0))
def lK (m:Bool)(K:bw→Option C)(g:cv C):NH C:=λl i f out=>fz m tInt (w64 (i+1)) λj=>g l f j out
def eI (m:Bool)(K:bw→Option C)(p:cv C):Ky C:=λl i g f j out=>let a:=List.take (0+f) out;ck (0≤j&&j≤ni f) (ck (lm (List.length ([]:List aa.den)+List.length (a.drop (0+Int.toNat j)))) (ck (0≤g&&g≤ni f) (ck (bd i l.length) (ck (lm (0+Int.toNat g+List.length ([ix aa l i]:List aa.den))) (ck (lm (0+Int.toNat g+List.length ([ix aa l i]:List aa.den)+List.length (([]:List aa.den)++a.drop (0+Int.toNat j)))) (fm m (0+Int.toNat g+List.length ([ix aa l i]:List aa.den)+List.length (([]:List aa.den)++a.drop (0+Int.toNat j))) (λJ=>fz m (.slice aa) (List.take (0+Int.toNat g+List.length ([ix aa l i]:List aa.den)) (List.take (0+Int.toNat g) out++[ix aa l i])++(([]:List aa.den)++a.drop (0+Int.toNat j))) λr=>lK m K p l i J r)))))))
def lI (m:Bool)(K:bw→Option C)(J:je C)(r:cv C):je C:=λl i j p out=>let g:=w64 (p-1);let f:=ix aa l i;let e:=List.getD out (0+Int.toNat p) (zero aa);let d:=decide (p>0);let c:=bd i l.length;let b:=List.getD out (0+Int.toNat g) (zero aa);let a:Bool:=cond (p<ni j) (e.1=f.1) ß;nq m [2] (p>0) (nm m 2 (p>0) (0≤w64 (p-1)&&w64 (p-1)<ni j) (nq m [2,2,2] (p>0) (nm m 2 (p>0) (0≤w64 (p-1)&&w64 (p-1)<ni j) (nq m [2,2] (p>0) (nm m 2 (p>0) c (nq m [2,2] (p>0) (nm m 2 (p>0) c (nq m [2,2] (p>0) (ck (ii d&&(ii d&&(ii d&&(ii d&&ü)))&&ü) (nq m [2,1] (p>0) (cond (cond (p>0) (!uz b.1 b.2.1 f.1 f.2.1) ß) (fz m tInt g (λR=>J l i j R out)) (nm m 2 (p<ni j) (0≤p&&p<ni j) (nq m [2,2] (p<ni j) (nm m 2 (p<ni j) c (nq m [2,2,3,1] (p<ni j) (nm m 2 a (0≤p&&p<ni j) (nq m [2,2] a (nm m 2 a c (nq m [2,2,3,1] a (cond (cond a (e.2.1=f.2.1) ß) (fz m tInt (w64 (p+1)) (λP=>eI m K r l i p j P out)) (eI m K r l i p j p out)))))))))))))))))))))
def uY (m:Bool)(K:bw→Option C)(f:cv C)(l:Υ):Option C:=f l 0 0 []
def jg (g:cv bw):Nat→je bw:=lp (λ_ _ _ _ _=>ö) λf=>lI ß ä f g
def nE:Nat→cv bw:=lp (λ_ _ _ _=>ö) λf=>lJ ß ä (jg f FU)
def lL (l:Υ):Option bw:=uY ß ä (nE FU) l
def Ik:Ent:=evE (.cons (.slice aa) .unit) bG (zero (.slice aa)) λx=>lL x.1
def jf:MS:=⟨0,[],[(0,.bb (.slice aa)),(3,.mut aa 44),(4,.bb tInt)]⟩
def B7:MS:=⟨0,[],[(0,.bb (.slice aa)),(3,.mut aa 44),(4,.bb tInt),(5,.bb tInt)]⟩
def Kz:MS:=⟨0,[],[(0,.bb (.slice aa)),(3,.mut aa 44),(4,.bb tInt),(5,.bb tInt),(6,.bb tInt)]⟩
def Il:Par:=⟨bE.tab,az [(145,wq)],λ_=>look [(11,Kz),(4,jf)],λ_=>look [(3,jf),(6,B7)]⟩
def Im:KT:=bq bE.tab [.tmp 2] [(.slice aa)]
def iJ:=h12 Il f103
def jh (g n:Nat):cv AV:=λl f i out=>aN 0 jf (iJ g 0 [1,1,0,1,0,0]) (ak 0 (aW 0 ö (iJ g 0 [1,1,1]) Im)) n ⟨mkE 96 [(0,.val (.slice aa) l),(3,.msl 0 0 0 f),(4,.val tInt i)],mkH 1 [(0,.cu aa 44 0 out)]⟩
def nD (f p n:Nat):je AV:=λl i g j out=>aN 0 B7 (iJ f 0 [1,1,0,1,0,0,1,0,0,1,0,0,0]) (ak 2 (aW 0 ö (iJ f 0 [1,1,0,1,0,0,1,0,0,1,1]) (ak 1 (aW 0 (ä jf) (iJ f 0 [1,1,0,1,0,0,1,1]) (kLp 0 jf (iJ f 0 [1,1,0,1,0,0]) (ak 0 (aW 0 ö (iJ f 0 [1,1,1]) Im)) p))))) n ⟨mkE 96 [(0,.val (.slice aa) l),(3,.msl 0 0 0 g),(4,.val tInt i),(5,.val tInt j)],mkH 1 [(0,.cu aa 44 0 out)]⟩
def NL (f g:Nat):jh f (g+1)=lJ ü (sm bG) (nD f g f):=Φ
def NI (f g j:Nat):nD f g (j+1)=lI ü (sm bG) (nD f g j) (jh f g):=Φ
def NK (j:Nat){f:cv bw}(g:jh FU j=mp4 bG f):∀n,nD FU j n=mp5 bG (jg f n):=cq Φ λl _ h=>(NI FU j l).trans (by rw[h,g];funext _ _ _ _ _;simp only[lI,eI,lK,ss])
def NM:∀n,jh FU n=mp4 bG (nE n):=cq Φ λf _ h=>(NL FU f).trans (by rw[NK f h FU];funext _ _ _ _;simp only[lJ,eI,lK,ss])
def Ww:aj prog 103 (Ik):=evX func103 (S:=Il) ax (ag ⟨Mz,apa⟩) (tys:=[(.slice aa)]) (λf x=>uY ü (sm bG) (jh f f) x.1) (λx=>by show _=Option.map bG _;rw[NM FU];simp only[uY,lL,eI,lK,ss])
abbrev jL (C:Type):=Int→(List Int)→aP.den→Υ→Int→Option C
abbrev qm (C:Type):=Int→(List Int)→Int→Υ→aP.den→Υ→Int→Option C
abbrev adp (C:Type):=Int→(List Int)→Int→Υ→Int→aP.den→Υ→Option C
def Ax (m:Bool)(K:bw→Option C)(f:qm C):jL C:=λid r1 g out i=>nq m [2,1] (i<il ([id]++r1)) (cond (cond (i<il ([id]++r1)) (i<12) ß) (ck (bd i ([id]++r1).length) (cl m (.slice aa) (FA g.1 (ix tInt ([id]++r1) i)) (λj=>f id r1 i j g out 0))) (K out))
def wm (m:Bool)(K:bw→Option C)(f:qm C):adp C:=λid r1 i p j l out=>fz m tInt (w64 (j+1)) λg=>f id r1 i p l out g
def Av (m:Bool)(K:bw→Option C)(f:qm C)(l:jL C):qm C:=λid r1 i j J out g=>let a:=bd g j.length;cond (g<il j) (ck a (cond (!(ix aa j g).2.1=1) (ck a (ck (lm (List.length out+List.length ([ix aa j g]:List aa.den))) (fz m (.slice aa) (out++[ix aa j g]) (λp=>wm m K f id r1 i j g J p)))) (wm m K f id r1 i j g J out))) (fz m tInt (w64 (i+1)) (λr=>l id r1 J out r))
def Mx (m:Bool)(K:bw→Option C)(f:jL C)(g:aP.den)(id:Int):Option C:=cl m (.slice tInt) (mM g id) λr1=>ck (lm (List.length ([id]:List Int)+List.length r1)) (f id r1 g [] 0)
def ux (g:jL bw):Nat→qm bw:=lp (λ_ _ _ _ _ _ _=>ö) λf=>Av ß ä f g
def Aw:Nat→jL bw:=lp (λ_ _ _ _ _=>ö) λf=>Ax ß ä (ux f FU)
def oo (f:aP.den)(id:Int):Option bw:=Mx ß ä (Aw FU) f id
def adu:Ent:=evE (.cons aP (.cons tInt .unit)) bG (zero (.slice aa)) λx=>oo x.1 x.2.1
def Hh:MS:=⟨1,[(0,[.bb (.slice aa)])],[(2,.keep),(5,.bb (.slice tInt)),(6,.own aa 44),(7,.bb tInt)]⟩
def Hg:MS:=⟨1,[(0,[.bb (.slice aa)])],[(2,.keep),(5,.bb (.slice tInt)),(6,.own aa 44),(7,.bb tInt),(8,.bb (.slice aa)),(9,.bb tInt)]⟩
def adv:Par:=⟨bE.tab,az [(143,JS),(144,agB)],λ_=>look [(9,Hg)],λ_=>look [(4,Hh),(8,Hg)]⟩
def BI:=h12 adv f102
def uy (f n:Nat):jL AV:=λid r1 g out i=>aN 0 Hh (BI f 0 [1,1,1,0,1,0,0]) (ak 0 (aW 0 ö (BI f 0 [1,1,1,1]) aaG)) n ⟨mkE 53 [(2,.box 0 0),(5,.val (.slice tInt) ([id]++r1)),(6,.own 1 0 aa out),(7,.val tInt i)],mkH 2 [(0,.box [.val (.slice aa) g.1]),(1,.row aa 44 0)]⟩
def Au (f p n:Nat):qm AV:=λid r1 i l j out g=>aN 0 Hg (BI f 0 [1,1,1,0,1,0,0,1,0,0,1,1,0,0]) (ak 2 (ak 1 (aW 0 ö (BI f 0 [1,1,1,0,1,0,0,1,1]) (kLp 0 Hh (BI f 0 [1,1,1,0,1,0,0]) (ak 0 (aW 0 ö (BI f 0 [1,1,1,1]) aaG)) p)))) n ⟨mkE 53 [(2,.box 0 0),(5,.val (.slice tInt) ([id]++r1)),(6,.own 1 0 aa out),(7,.val tInt i),(8,.val (.slice aa) l),(9,.val tInt g)],mkH 2 [(0,.box [.val (.slice aa) j.1]),(1,.row aa 44 0)]⟩
def ads (f g:Nat):uy f (g+1)=Ax ü (sm bG) (Au f g f):=Φ
def adq (f g j:Nat):Au f g (j+1)=Av ü (sm bG) (Au f g j) (uy f g):=Φ
def adr (j:Nat){f:jL bw}(g:uy FU j=mp5 bG f):∀n,Au FU j n=mp7 bG (ux f n):=cq Φ λl _ h=>(adq FU j l).trans (by rw[h,g];funext _ _ _ _ _ _ _;simp only[Av,wm,ss])
def adt:∀n,uy FU n=mp5 bG (Aw n):=cq Φ λf _ h=>(ads FU f).trans (by rw[adr f h FU];funext _ _ _ _ _;simp only[Ax,wm,ss])
def aiJ:aj prog 102 (adu):=evX func102 (S:=adv) ax (ag ⟨YD,ai6,apa⟩) (tys:=[(.slice aa)]) (λf x=>Mx ü (sm bG) (uy f f) x.1 x.2.1) (λx=>by show _=Option.map bG _;rw[adt FU];simp only[Mx,oo,wm,ss])
abbrev fg (C:Type):=Nat→Int→Υ→Option C
abbrev KM (C:Type):=Int→Nat→Υ→Option C
def jl (m:Bool)(K:bw→Option C)(g:fg C):KM C:=λi f out=>fz m tInt (w64 (i+1)) λj=>g f j out
def jj (m:Bool)(K:bw→Option C)(g:fg C):fg C:=λf i out=>let a:=List.getD out (0+Int.toNat i) (zero aa);cond (i<ni f) (ck (0≤i&&i<ni f) (cond (a.2.1=2) (ck (0≤i&&i<ni f) (fz m (.slice aa) (List.set out (0+Int.toNat i) (a.1,a.2.1,(0,ß,[],0,()),())) (λj=>jl m K g i f j))) (jl m K g i f out))) (K ((List.take f out).drop 0))
def rg (m:Bool)(K:bw→Option C)(f:fg C)(l:Υ):Option C:=ck (lm (0+List.length l)) (fm m (0+List.length l) (λj=>fz m (.slice aa) (List.take 0 []++l) λg=>f j 0 g))
def kw:Nat→fg bw:=lp (λ_ _ _=>ö) λf=>jj ß ä f
def eO (l:Υ):Option bw:=rg ß ä (kw FU) l
def EP:Ent:=evE (.cons (.slice aa) .unit) bG (zero (.slice aa)) λx=>eO x.1
def rh:MS:=⟨0,[],[(3,.mut aa 44),(4,.bb tInt)]⟩
def EQ:Par:=⟨Nq.tab,az [],λ_=>look [(4,rh)],λ_=>look [(3,rh)]⟩
def RO:KT:=bq Nq.tab [.tmp 2] [(.slice aa)]
def ES:=h12 EQ f101
def ku (g n:Nat):fg AV:=λf i out=>aN 0 rh (ES g 0 [1,1,0,1,0,0]) (ak 0 (aW 0 ö (ES g 0 [1,1,1]) RO)) n ⟨mkE 26 [(3,.msl 0 0 0 f),(4,.val tInt i)],mkH 1 [(0,.cu aa 44 0 out)]⟩
def KN (f g:Nat):ku f (g+1)=jj ü (sm bG) (ku f g):=Φ
def KO:∀n,ku FU n=mp3 bG (kw n):=cq Φ λf _ h=>(KN FU f).trans (by rw[h];funext _ _ _;simp only[jj,jl,ss])
def RN:aj prog 101 (EP):=evX func101 (S:=EQ) Np (ag trivial) (tys:=[(.slice aa)]) (λf x=>rg ü (sm bG) (ku f f) x.1) (λx=>by show _=Option.map bG _;rw[KO FU];simp only[rg,eO,jl,ss])
abbrev dv (C:Type):=Int→(List Int)→(List Int)→(List Int)→Int→Bool→(List ah.den)→Int→Int→Int→Int→Υ→Option C
abbrev j9 (C:Type):=Int→Int→Int→Int→Int→Int→Option C
abbrev fe (C:Type):=Υ→Option C
abbrev j8 (C:Type):=Int→Int→Bool→Str→Int→Option C
def qt (m:Bool)(K:bw→Option C)(r:j9 C)(p:dv C):dv C:=λP r2 r3 r4 U t33 J l j f g R=>cond t33 (cl m tInt (aZ r2 f) (λr6=>cl m tInt (fK (J,()) r6) λr7=>nq m [2,0] (!r7=5) (cond (cond (r7=5) ü (r7=0)) (cl m tInt (aZ r4 f) (λr8=>r r8 2 l j f g)) (r r6 r7 l j f g)))) (cond (U=2) (fz m .bool (decide (U=2)) (λT=>p P r2 r3 r4 U T J l j f g R)) (fz m .bool (decide (U=3)) (λT=>p P r2 r3 r4 U T J l j f g R)))
def nh (m:Bool)(K:bw→Option C)(f:fe C):j9 C:=λid l J r p g=>cl m .str (ja l g) λr9=>ck (lm (List.length ([]:List aa.den)+List.length ([(id,3,(0,ß,r9,0,()),())]:List aa.den))) (fz m (.slice aa) ([]++[(id,3,(0,ß,r9,0,()),())]) (λj=>f j))
def ng (m:Bool)(K:bw→Option C)(g:fe C)(P:j8 C):dv C:=λf r2 r3 r4 T t63 l b1_0 b1_1 r j R=>let e:=aZ r2 r;let d:=aB (l,()) 4;let c:=aB (l,()) 1;let b:=w64 (Int.tdiv j 2);let a:=aZ r3 r;cond t63 (cl m tInt a (λr10=>cl m aM (fH (l,()) r10 4) λr11=>cl m aM (eJ r11 (l,()) j) λr12=>ck (lm (List.length ([]:List aa.den)+List.length ([(r10,4,r12,())]:List aa.den))) (fz m (.slice aa) ([]++[(r10,4,r12,())]) (λp=>g p)))) (cond (T=4) (cl m tInt e (λr13=>cl m tInt (mod2_ev j 3) λr14=>ck (!(3:Int)=0) (cl m .str (lF (w64 (Int.tdiv j 3))) (λr15=>ck (lm (List.length ([]:List aa.den)+List.length ([(r13,w64 ((8:Int)+r14),(0,ß,r15,0,()),())]:List aa.den))) (fz m (.slice aa) ([]++[(r13,w64 ((8:Int)+r14),(0,ß,r15,0,()),())]) (λp=>g p)))))) (cond (T=5) (cl m tInt (aZ r4 r) (λr16=>cl m (.slice tInt) c λr17=>cl m tInt (aZ r17 j) λr18=>ck (!(2:Int)=0) (cl m .str (rB b) (λr19=>ck (lm (List.length ([]:List aa.den)+List.length ([(r16,2,(0,ß,r19,r18,()),())]:List aa.den))) (fz m (.slice aa) ([]++[(r16,2,(0,ß,r19,r18,()),())]) (λp=>g p)))))) (cond (T=6) (cl m tInt a (λr20=>cl m tInt (aZ r3 j) λr21=>cl m aM (fH (l,()) r21 2) λr22=>ck (lm (List.length ([]:List aa.den)+List.length ([(r20,2,r22,())]:List aa.den))) (fz m (.slice aa) ([]++[(r20,2,r22,())]) (λp=>g p)))) (cond (T=7) (cl m tInt a (λr23=>cl m aM (fH (l,()) r23 2) λr24=>cl m (.slice aa) (oo (R,()) r23) λr25=>cl m (.slice aa) (eO r25) λr26=>ck (lm (List.length ([]:List aa.den)+List.length r26)) (cl m aM (fH (l,()) r23 4) (λr27=>cl m aM (eJ r27 (l,()) j) λr28=>ck (lm (List.length ([]++r26)+List.length ([(w64 (f+1),1,(5,ß,[],0,()),()),(w64 (f+1),2,r24,()),(w64 (f+1),4,r28,())]:List aa.den))) (fz m (.slice aa) ([]++r26++[(w64 (f+1),1,(5,ß,[],0,()),()),(w64 (f+1),2,r24,()),(w64 (f+1),4,r28,())]) (λp=>g p)))))) (cond (T=8) (cl m (.slice tInt) c (λr29=>cl m tInt (aZ r29 r) λr30=>cl m .str (rB j) λr31=>cl m .str (ja 2 j) λr32=>ck (!(2:Int)=0) (cl m aM (eJ (0,ß,[],0,()) (l,()) b) (λr33=>ck (lm (List.length ([]:List aa.den)+List.length ([(w64 (f+1),1,(2,ß,[],0,()),()),(w64 (f+1),2,(0,ß,r31,r30,()),()),(w64 (f+1),3,(0,ß,r32,0,()),()),(w64 (f+1),8,(0,ß,[10],0,()),()),(w64 (f+1),9,(0,ß,[32],0,()),()),(w64 (f+2),1,(5,ß,[],0,()),()),(w64 (f+2),2,(1,ß,[],w64 (f+1),()),()),(w64 (f+2),4,(5,ß,[],0,()),()),(w64 (f+3),1,(5,ß,[],0,()),()),(w64 (f+3),2,(2,ß,[],w64 (f+1),()),()),(w64 (f+3),4,r33,())]:List aa.den))) (fz m (.slice aa) ([]++[(w64 (f+1),1,(2,ß,[],0,()),()),(w64 (f+1),2,(0,ß,r31,r30,()),()),(w64 (f+1),3,(0,ß,r32,0,()),()),(w64 (f+1),8,(0,ß,[10],0,()),()),(w64 (f+1),9,(0,ß,[32],0,()),()),(w64 (f+2),1,(5,ß,[],0,()),()),(w64 (f+2),2,(1,ß,[],w64 (f+1),()),()),(w64 (f+2),4,(5,ß,[],0,()),()),(w64 (f+3),1,(5,ß,[],0,()),()),(w64 (f+3),2,(2,ß,[],w64 (f+1),()),()),(w64 (f+3),4,r33,())]) (λp=>g p)))))) (cond (T=9) (cl m (.slice tInt) d (λr34=>ck (lm (r4.length+r34.length)) (cl m tInt (aZ (r4++r34) r) (λr35=>cl m (.slice aa) (oo (R,()) r35) λr36=>cl m (.slice aa) (eO r36) λr37=>g r37)))) (cond (T=10) (cl m (.slice tInt) d (λr38=>cl m tInt (aZ r38 r) λU=>cl m aM (fH (l,()) U 2) λJ=>cond (!J.2.2.2.1=0) (cl m .str (rB j) (λr41=>P U J.1 J.2.1 r41 J.2.2.2.1)) (P U J.1 J.2.1 J.2.2.1 J.2.2.2.1))) (cond (T=11) (cl m tInt e (λr42=>cl m (.slice aa) (oo (R,()) r42) λr43=>g r43)) (g [])))))))))
def na (m:Bool)(K:bw→Option C):fe C:=λw=>cl m (.slice aa) (lL w) λf=>K f
def nc (m:Bool)(K:bw→Option C)(p:fe C):j8 C:=λr l j g f=>ck (lm (List.length ([]:List aa.den)+List.length ([(r,2,(l,j,g,f,()),())]:List aa.den))) (fz m (.slice aa) ([]++[(r,2,(l,j,g,f,()),())]) (λJ=>p J))
def uF (m:Bool)(K:bw→Option C)(j:dv C)(s:ai.den)(d:be.den)(g:Int):Option C:=ce m aP (stG s) (eU s) λr1=>cl m (.slice tInt) (aB s 0) λr2=>cl m (.slice tInt) (aB s 5) λU=>cl m (.slice tInt) (aB s 2) λT=>cl m tInt (mod2_ev d.1 13) λR=>cond (R=0) (fz m .bool (decide (R=0)) (λP=>fz m (.slice ah) s.1 λJ=>fz m tInt d.1 λr=>fz m tInt d.2.1 λp=>fz m tInt d.2.2.1 λl=>fz m tInt d.2.2.2.1 λf=>j g r2 U T R P J r p l f r1.1)) (fz m .bool (decide (R=1)) (λP=>fz m (.slice ah) s.1 λJ=>fz m tInt d.1 λr=>fz m tInt d.2.1 λp=>fz m tInt d.2.2.1 λl=>fz m tInt d.2.2.2.1 λf=>j g r2 U T R P J r p l f r1.1))
def dA:fe bw:=na ß ä
def dC:j9 bw:=nh ß ä dA
def gR:j8 bw:=nc ß ä dA
def gS:dv bw:=ng ß ä dA gR
def mZ:dv bw:=qt ß ä dC gS
def lr (s:ai.den)(d:be.den)(f:Int):Option bw:=uF ß ä mZ s d f
def H3:Ent:=evE (.cons ai (.cons be (.cons tInt .unit))) bG (zero (.slice aa)) λx=>lr x.1 x.2.1 x.2.2.1
def MM:MS:=⟨6,[(0,[.bb (.slice ah)]),(1,[.bb tInt,.bb tInt,.bb tInt,.bb tInt]),(5,[.bb (.slice aa)])],[(2,.bb tInt),(3,.keep),(4,.keep),(7,.keep),(8,.bb (.slice tInt)),(9,.bb (.slice tInt)),(10,.own tInt 3),(11,.own aa 44),(32,.bb tInt),(33,.bb .bool)]⟩
def J8:MS:=⟨2,[(0,[.drop]),(1,[.bb tInt,.bb tInt,.bb tInt,.bb tInt])],[(4,.keep),(11,.own aa 44),(12,.bb tInt),(13,.bb tInt)]⟩
def J7:MS:=⟨6,[(0,[.bb (.slice ah)]),(1,[.bb tInt,.bb tInt,.bb tInt,.bb tInt]),(5,[.bb (.slice aa)])],[(2,.bb tInt),(3,.keep),(4,.keep),(7,.keep),(8,.bb (.slice tInt)),(9,.bb (.slice tInt)),(10,.own tInt 3),(11,.own aa 44),(32,.bb tInt),(63,.bb .bool)]⟩
def gP:MS:=⟨0,[],[(11,.bb (.slice aa))]⟩
def J6:MS:=⟨32,[(0,[.drop]),(1,[.drop,.drop,.drop,.drop]),(5,[.drop]),(31,[.bb tInt,.bb .bool,.bb .str,.bb tInt])],[(11,.own aa 44),(20,.bb tInt),(21,.keep)]⟩
def H4:Par:=⟨bE.tab,Et [(94,FP),(18,tH),(60,zf),(95,zD),(96,Kl),(98,Uq),(97,In),(99,Ig),(100,aa8),(102,adu),(101,EP),(103,Ik)] [] [] [] [(59,jG)],λ_=>look [(9,MM),(14,J8),(17,J7),(45,gP),(42,J6)],λ_=>look []⟩
def oR:KT:=bq bE.tab [.tmp 6] [(.slice aa)]
def ff:=h12 H4 f55
def sE (f:Nat):dv AV:=λg r2 U T R P J C r p l j=>ff f 0 [1,1,1,1,1,1,0,1,0,1] ⟨mkE 290 [(2,.val tInt g),(3,.box 0 0),(4,.box 1 0),(7,.box 5 0),(8,.val (.slice tInt) r2),(9,.val (.slice tInt) U),(10,.own 6 0 tInt T),(11,.own 7 0 aa []),(32,.val tInt R),(33,.val .bool P)],mkH 8 [(0,.box [.val (.slice ah) J]),(1,.box [.val tInt C,.val tInt r,.val tInt p,.val tInt l]),(5,.box [.val (.slice aa) j]),(6,.row tInt 3 0),(7,.row aa 44 0)]⟩ (ak 0 (aW 0 (ä gP) (ff f 0 [1,1,1,1,1,1,1]) oR))
def qy (f:Nat):j9 AV:=λid r p l j g=>ff f 0 [1,1,1,1,1,1,0,1,0,1,0,1,1,1] ⟨mkE 290 [(4,.box 1 0),(11,.own 2 0 aa []),(12,.val tInt id),(13,.val tInt r)],mkH 3 [(0,.box [.unk]),(1,.box [.val tInt p,.val tInt l,.val tInt j,.val tInt g]),(2,.row aa 44 0)]⟩ (ak 0 (aW 0 (ä gP) (ff f 0 [1,1,1,1,1,1,1]) oR))
def qx (f:Nat):dv AV:=λg r2 U T R P J C r p l j=>ff f 0 [1,1,1,1,1,1,0,1,0,1,1,1] ⟨mkE 290 [(2,.val tInt g),(3,.box 0 0),(4,.box 1 0),(7,.box 5 0),(8,.val (.slice tInt) r2),(9,.val (.slice tInt) U),(10,.own 6 0 tInt T),(11,.own 7 0 aa []),(32,.val tInt R),(63,.val .bool P)],mkH 8 [(0,.box [.val (.slice ah) J]),(1,.box [.val tInt C,.val tInt r,.val tInt p,.val tInt l]),(5,.box [.val (.slice aa) j]),(6,.row tInt 3 0),(7,.row aa 44 0)]⟩ (ak 0 (aW 0 (ä gP) (ff f 0 [1,1,1,1,1,1,1]) oR))
def gQ (f:Nat):fe AV:=λw=>ff f 0 [1,1,1,1,1,1,1] ⟨mkE 290 [(11,.val (.slice aa) w)],mkH 0 []⟩ oR
def qw (f:Nat):j8 AV:=λr p l j g=>ff f 0 [1,1,1,1,1,1,0,1,0,1,1,1,1,1,1,1,1,1,1,1,1,1,1,1,1,1,0,1,1,1] ⟨mkE 290 [(11,.own 32 0 aa []),(20,.val tInt r),(21,.box 31 0)],mkH 33 [(0,.box [.unk]),(1,.box [.unk,.unk,.unk,.unk]),(5,.box [.unk]),(6,.row tInt 3 0),(7,.row aa 44 1),(23,.row tInt 3 1),(31,.box [.val tInt p,.val .bool l,.val .str j,.val tInt g]),(32,.row aa 44 0)]⟩ (ak 0 (aW 0 (ä gP) (ff f 0 [1,1,1,1,1,1,1]) oR))
def MN (f:Nat):sE f=qt ü (sm bG) (qy f) (qx f):=Φ
def Ke (f:Nat):qy f=nh ü (sm bG) (gQ f):=Φ
def Kc (f:Nat):qx f=ng ü (sm bG) (gQ f) (qw f):=Φ
def J9 (f:Nat):gQ f=na ü (sm bG):=Φ
def Ka (f:Nat):qw f=nc ü (sm bG) (gQ f):=Φ
def qu:gQ FU=mp1 bG (dA):=(J9 FU).trans (by funext _;simp only[na,dA,ss])
def Kf:qy FU=mp6 bG (dC):=(Ke FU).trans (by rw[qu];funext _ _ _ _ _ _;simp only[nh,dC,ss])
def Kb:qw FU=mp5 bG (gR):=(Ka FU).trans (by rw[qu];funext _ _ _ _ _;simp only[nc,gR,ss])
def Kd:qx FU=ahM bG (gS):=(Kc FU).trans (by rw[qu,Kb];funext _ _ _ _ _ _ _ _ _ _ _ _;simp only[ng,gS,ss])
def MO:sE FU=ahM bG (mZ):=(MN FU).trans (by rw[Kf,Kd];funext _ _ _ _ _ _ _ _ _ _ _ _;simp only[qt,mZ,ss])
def VO:aj prog 55 (H3):=evX func55 (S:=H4) ax (uX ⟨aaS,mod2_x,Dd,Dn,TS,ad8,Wz,V6,ahV,aiJ,RN,Ww,apa⟩ trivial trivial trivial ⟨nZ,apa⟩) (tys:=[(.slice aa)]) (λf x=>uF ü (sm bG) (sE f) x.1 x.2.1 x.2.2.1) (λx=>by show _=Option.map bG _;rw[MO];simp only[uF,lr,ss])
abbrev dj (C:Type):=Λ→Int→Int→Int→Option C
abbrev gG (C:Type):=Λ→Int→Int→Int→Int→Option C
def pM (m:Bool)(K:Int→Option C)(g:gG C):dj C:=λl f i x=>g l f i x 0
def tF (m:Bool)(K:Int→Option C)(g:gG C):dj C:=λl f x i=>let b:=bd i l.length;let a:=ix tCommit l i;cond (i<il l) (ck b (ck (0≤(20:Int)) (cond (ZT .i64 a.1 20=f) (ck b (fz m tInt (tJ x a.1) (λj=>pM m K g l f i j))) (pM m K g l f i x)))) (K x)
def pK (m:Bool)(K:Int→Option C)(g:gG C):gG C:=λl f i p x=>fz m tInt (w64 (p+1)) λj=>g l f i x j
def tG (m:Bool)(K:Int→Option C)(g:dj C):dj C:=λl f i x=>fz m tInt (w64 (i+1)) λj=>g l f x j
def tE (m:Bool)(K:Int→Option C)(g:gG C)(p:dj C):gG C:=λl f i x j=>let b:=bd i l.length;let a:=ix tCommit l i;let d:=ix aa a.2.2.2.2.1 j;let c:=bd j a.2.2.2.2.1.length;ck b (cond (j<il a.2.2.2.2.1) (ck b (ck c (ck (0≤(20:Int)) (cond (ZT .i64 d.1 20=f) (ck b (ck c (fz m tInt (tJ x d.1) (λr=>pK m K g l f i j r)))) (pK m K g l f i j x))))) (tG m K p l f i x))
def Dk (m:Bool)(K:Int→Option C)(g:dj C)(l:Λ)(f:Int):Option C:=ck (0≤(20:Int)) (fz m tInt (ZU .i64 f 20) (λj=>g l f j 0))
def kV (g:dj Int):Nat→gG Int:=lp (λ_ _ _ _ _=>ö) λf=>tE ß ä f g
def pJ:Nat→dj Int:=lp (λ_ _ _ _=>ö) λf=>tF ß ä (kV f FU)
def pO (l:Λ)(f:Int):Option Int:=Dk ß ä (pJ FU) l f
def UI:Ent:=evE (.cons (.slice tCommit) (.cons tInt .unit)) av (zero tInt) λx=>pO x.1 x.2.1
def kU:MS:=⟨0,[],[(0,.bb (.slice tCommit)),(1,.bb tInt),(5,.bb tInt),(6,.bb tInt)]⟩
def AW:MS:=⟨0,[],[(0,.bb (.slice tCommit)),(1,.bb tInt),(5,.bb tInt),(6,.bb tInt),(7,.bb tInt)]⟩
def UJ:Par:=⟨bE.tab,az [],λ_=>look [(7,kU),(9,AW),(4,kU)],λ_=>look [(3,kU),(8,AW)]⟩
def vF:=h12 UJ f54
def pI (f n:Nat):dj AV:=λl g x i=>aN 0 kU (vF f 0 [1,1,0,1,0,0]) (ak 0 (aW 0 ö (vF f 0 [1,1,1]) Bl)) n ⟨mkE 65 [(0,.val (.slice tCommit) l),(1,.val tInt g),(5,.val tInt x),(6,.val tInt i)],mkH 0 []⟩
def vE (f p n:Nat):gG AV:=λl g i x j=>aN 0 AW (vF f 0 [1,1,0,1,0,0,1,0,0,1,1,0,0]) (ak 2 (ak 1 (aW 0 (ä kU) (vF f 0 [1,1,0,1,0,0,1,1]) (kLp 0 kU (vF f 0 [1,1,0,1,0,0]) (ak 0 (aW 0 ö (vF f 0 [1,1,1]) Bl)) p)))) n ⟨mkE 65 [(0,.val (.slice tCommit) l),(1,.val tInt g),(5,.val tInt x),(6,.val tInt i),(7,.val tInt j)],mkH 0 []⟩
def Xp (f g:Nat):pI f (g+1)=tF ü (sm av) (vE f g f):=Φ
def Xn (f g j:Nat):vE f g (j+1)=tE ü (sm av) (vE f g j) (pI f g):=Φ
def Xo (j:Nat){f:dj Int}(g:pI FU j=mp4 av f):∀n,vE FU j n=mp5 av (kV f n):=cq Φ λl _ h=>(Xn FU j l).trans (by rw[h,g];funext _ _ _ _ _;simp only[tE,tG,pM,pK,ss])
def Xq:∀n,pI FU n=mp4 av (pJ n):=cq Φ λf _ h=>(Xp FU f).trans (by rw[Xo f h FU];funext _ _ _ _;simp only[tF,tG,pM,pK,ss])
def aeM:aj prog 54 (UI):=evX func54 (S:=UJ) ax (ag trivial) (tys:=[tInt]) (λf x=>Dk ü (sm av) (pI f f) x.1 x.2.1) (λx=>by show _=Option.map av _;rw[Xq FU];simp only[Dk,pO,tG,pM,pK,ss])
abbrev ca:=Λ
abbrev jv (C:Type):=Λ→tCommit.den→Int→Option C
def mf (m:Bool)(K:ca→Option C)(g:jv C):jv C:=λl c f=>let d:=Int.toNat f;let b:=List.take (List.length l) l;let a:=List.take d l;nm m 2 (f<il l) (bd f l.length) (nq m [2,2,2,3,1] (f<il l) (cond (cond (f<il l) ((ix tCommit l f).1<c.1) ß) (fz m tInt (w64 (f+1)) (λj=>g l c j)) (ck (0≤f&&f≤(l.length:Int)) (ck (lm (List.length ([]:List tCommit.den)+List.length (a.drop 0))) (ck (lm (List.length ([]++a.drop 0)+List.length ([c]:List tCommit.den))) (ck (0≤f&&f≤(l.length:Int)) (ck (lm (List.length ([]++a.drop 0++[c])+List.length (b.drop d))) (K ([]++a.drop 0++[c]++b.drop d)))))))))
def vM (m:Bool)(K:ca→Option C)(f:jv C)(l:Λ)(c:tCommit.den):Option C:=f l c 0
def nV:Nat→jv ca:=lp (λ_ _ _=>ö) λf=>mf ß ä f
def mg (l:Λ)(c:tCommit.den):Option ca:=vM ß ä (nV FU) l c
def bQ (r:ca):AV :=.val (.slice tCommit) r
def I7:Ent:=evE (.cons (.slice tCommit) (.cons tCommit .unit)) bQ (zero (.slice tCommit)) λx=>mg x.1 x.2.1
def Cr:MS:=⟨1,[(0,[.bb tInt,.bb (.slice tInt),.bb (.slice tInt),.bb .str,.bb (.slice aa)])],[(0,.bb (.slice tCommit)),(3,.keep),(5,.bb tInt)]⟩
def I8:Par:=⟨bE.tab,az [],λ_=>look [],λ_=>look [(2,Cr)]⟩
def I9:KT:=bq bE.tab [.tmp 4] [(.slice tCommit)]
def Ja:=h12 I8 f27
def nU (f n:Nat):jv AV:=λl c g=>aN 0 Cr (Ja f 0 [1,1,0,0,0]) (ak 0 (aW 0 ö (Ja f 0 [1,1,1]) I9)) n ⟨mkE 37 [(0,.val (.slice tCommit) l),(3,.box 0 0),(5,.val tInt g)],mkH 1 [(0,.box [.val tInt c.1,.val (.slice tInt) c.2.1,.val (.slice tInt) c.2.2.1,.val .str c.2.2.2.1,.val (.slice aa) c.2.2.2.2.1])]⟩
def Pi (f g:Nat):nU f (g+1)=mf ü (sm bQ) (nU f g):=Φ
def Pj:∀n,nU FU n=mp3 bQ (nV n):=cq Φ λf _ h=>(Pi FU f).trans (by rw[h];funext _ _ _;simp only[mf,ss])
def XW:aj prog 27 (I7):=evX func27 (S:=I8) ax (ag trivial) (tys:=[(.slice tCommit)]) (λf x=>vM ü (sm bQ) (nU f f) x.1 x.2.1) (λx=>by show _=Option.map bQ _;rw[Pj FU];simp only[vM,mg,ss])
abbrev Qm (C:Type):=Λ→Int→be.den→(List Int)→Option C
abbrev Mb (C:Type):=ai.den→Int→(List Int)→(List Int)→Str→Υ→Option C
def jI (m:Bool)(K:iu→Option C):Mb C:=λJ p l j g f=>cl m tInt (mw J (p,l,j,g,f,())) λr=>K ((p,l,j,g,f,()),decide (r=0),())
def mG (m:Bool)(K:iu→Option C):Qm C:=λl r1 d f=>cl m (.slice tInt) (sR l f) λp=>cl m ai (qk l p) λP=>cl m tInt (pO l (w64 ((1:Int)+r1))) λR=>cl m tInt (mod2_ev d.1 13) λr8=>cond (r8=12) (cl m tInt (mod2_ev d.2.2.1 (il l)) (λr9=>let a:=ix tCommit l r9;ck (bd r9 l.length) (fz m tInt (w64 (R+1)) (λj=>fz m (.slice tInt) [a.1] λJ=>fz m .str [100,101,101,100] λg=>fz m (.slice aa) a.2.2.2.2.1 λr=>jI m K P j p J g r)))) (cl m (.slice aa) (lr P d R) (λr10=>ck (lm (List.length ([]:List tCommit.den)+List.length l)) (ck (lm (List.length ([]++l)+List.length ([(0,p,[],[100,101,101,100],r10,())]:List tCommit.den))) (cl m tInt (pO ([]++l++[(0,p,[],[100,101,101,100],r10,())]) (w64 ((1:Int)+r1))) (λr11=>fz m tInt (w64 (r11+1)) λj=>fz m .str [100,101,101,100] λg=>jI m K P j p [] g r10)))))
def v7 (m:Bool)(K:iu→Option C)(l:Λ)(f:(List Int))(d:be.den):Option C:=cl m tInt (mod2_ev d.2.1 3) λr1=>ck (!(3:Int)=0) (cl m tInt (mod2_ev (w64 (Int.tdiv d.2.1 3)) 3) (λr=>let a:=tJ (w64 (w64 (il f-1)-r)) 0;ck (bd a f.length) (ck (!(9:Int)=0) (cl m tInt (mod2_ev (w64 (Int.tdiv d.2.1 9)) 3) (λp=>cond (p=0) (ck (!(27:Int)=0) (cl m tInt (mod2_ev (w64 (Int.tdiv d.2.1 27)) (il f)) (λj=>ck (bd j f.length) (ck (lm (List.length ([ix tInt f a]:List Int)+List.length ([ix tInt f j]:List Int))) (fz m (.slice tInt) ([ix tInt f a]++[ix tInt f j]) (λg=>mG m K l r1 d g)))))) (fz m (.slice tInt) [ix tInt f a] (λg=>mG m K l r1 d g)))))))
def mH (l:Λ)(f:(List Int))(d:be.den):Option iu:=v7 ß ä l f d
def JK:Ent:=evE (.cons (.slice tCommit) (.cons (.slice tInt) (.cons be .unit))) jD (zero (.cons tCommit (.cons .bool .unit))) λx=>mH x.1 x.2.1 x.2.2.1
def Qn:MS:=⟨2,[(0,[.bb tInt,.bb tInt,.bb tInt,.bb tInt]),(1,[.bb tInt,.bb (.slice tInt),.bb (.slice tInt),.bb .str,.bb (.slice aa)])],[(0,.bb (.slice tCommit)),(5,.keep),(6,.keep),(8,.bb tInt),(10,.own tInt 3)]⟩
def Mc:MS:=⟨14,[(0,[.drop,.drop,.drop,.drop]),(1,[.bb tInt,.bb (.slice tInt),.bb (.slice tInt),.bb .str,.bb (.slice aa)]),(7,[.bb tInt,.bb (.slice tInt),.bb (.slice tInt),.bb .str,.bb (.slice aa)]),(13,[.bb (.slice ah)])],[(6,.keep),(11,.keep),(12,.keep)]⟩
def Yu:Par:=⟨bE.tab,az [(18,tH),(52,TY),(53,Mp),(54,UI),(55,H3),(56,Jj)],λ_=>look [(6,Qn),(14,Mc)],λ_=>look []⟩
def Yt:aj prog 26 (JK):=evX func26 (S:=Yu) ax (ag ⟨mod2_x,adF,Vy,aeM,VO,X7,apa⟩) (tys:=[tCommit,.bool]) (λf x=>v7 ü (sm jD) x.1 x.2.1 x.2.2.1) (λx=>by show _=Option.map jD _;simp only[v7,mH,jI,mG,ss])
abbrev fp (C:Type):=La'→Λ→(List Int)→Int→Option C
abbrev LL (C:Type):=La'→Int→Λ→(List Int)→Option C
def jy (m:Bool)(K:ca→Option C)(g:fp C):LL C:=λl i out f=>fz m tInt (w64 (i+1)) λj=>g l out f j
def jx (m:Bool)(K:ca→Option C)(g:fp C):fp C:=λl out f i=>nq m [2,1] (i<il l) (cond (cond (i<il l) (i<9) ß) (ck (bd i l.length) (cl m (.cons tCommit (.cons .bool .unit)) (mH out f (ix be l i)) (λj=>cond j.2.1 (cl m (.slice tCommit) (mg out j.1) (λr=>ck (lm (List.length f+List.length ([j.1.1]:List Int))) (fz m (.slice tInt) (f++[j.1.1]) (λp=>jy m K g l i r p)))) (jy m K g l i out f)))) (K out))
def rH (m:Bool)(K:ca→Option C)(f:fp C)(first:Int)(l:La'):Option C:=ce m tCommit ü (firstF first) λr1=>fz m (.slice tCommit) [r1] λj=>fz m (.slice tInt) [r1.1] λg=>f l j g 0
def kF:Nat→fp ca:=lp (λ_ _ _ _=>ö) λf=>jx ß ä f
def jz (first:Int)(l:La'):Option ca:=rH ß ä (kF FU) first l
def Gk:Ent:=evE (.cons tInt (.cons (.slice be) .unit)) bQ (zero (.slice tCommit)) λx=>jz x.1 x.2.1
def rJ:MS:=⟨0,[],[(1,.bb (.slice be)),(6,.bb (.slice tCommit)),(7,.own tInt 3),(8,.bb tInt)]⟩
def Gm:Par:=⟨bE.tab,az [(25,PH),(26,JK),(27,I7)],λ_=>look [(6,rJ)],λ_=>look [(5,rJ)]⟩
def Gn:=h12 Gm f7
def kE (f n:Nat):fp AV:=λl out g i=>aN 0 rJ (Gn f 0 [1,1,1,1,0,1,0,0]) (ak 0 (aW 0 ö (Gn f 0 [1,1,1,1,1]) I9)) n ⟨mkE 48 [(1,.val (.slice be) l),(6,.val (.slice tCommit) out),(7,.own 0 0 tInt g),(8,.val tInt i)],mkH 1 [(0,.row tInt 3 0)]⟩
def LM (f g:Nat):kE f (g+1)=jx ü (sm bQ) (kE f g):=Φ
def LN:∀n,kE FU n=mp4 bQ (kF n):=cq Φ λf _ h=>(LM FU f).trans (by rw[h];funext _ _ _ _;simp only[jx,jy,ss])
def S4:aj prog 7 (Gk):=evX func7 (S:=Gm) ax (ag ⟨abI,Yt,XW,apa⟩) (tys:=[(.slice tCommit)]) (λf x=>rH ü (sm bQ) (kE f f) x.1 x.2.1) (λx=>by show _=Option.map bQ _;rw[LN FU];simp only[rH,jz,jy,ss])
def zO (m:Bool)(K:(List Int)→Option C)(l:Λ):Option C:=cl m (.slice tInt) (p8 l) λr1=>K r1
def vQ (l:Λ):Option (List Int):=zO ß ä l
def Pu:Ent:=evE (.cons (.slice tCommit) .unit) aw (zero (.slice tInt)) λx=>vQ x.1
def aby:Par:=⟨bE.tab,az [(151,Ps)],λ_=>look [],λ_=>look []⟩
def abx:aj prog 107 (Pu):=evX func107 (S:=aby) ax (ag ⟨abw,apa⟩) (tys:=[(.slice tInt)]) (λf x=>zO ü (sm aw) x.1) (λx=>by show _=Option.map aw _;simp only[zO,vQ,ss])
def VB (m:Bool)(K:ai.den→Option C)(l:Λ):Option C:=cl m (.slice tInt) (vQ l) λr1=>cl m ai (qk l r1) λf=>K f
def BF (l:Λ):Option ai.den:=VB ß ä l
def ada:Ent:=evE (.cons (.slice tCommit) .unit) bj (zero ai) λx=>BF x.1
def ajj:Par:=⟨bE.tab,az [(107,Pu),(53,Mp)],λ_=>look [],λ_=>look []⟩
def agS:aj prog 57 (ada):=evX func57 (S:=ajj) ax (ag ⟨abx,Vy,apa⟩) (tys:=[ai]) (λf x=>VB ü (sm bj) x.1) (λx=>by show _=Option.map bj _;simp only[VB,BF,ss])
end
