/- The equations of the program's functions. -/
import Derived.Test.YtfgpipfjalmooaaGreatChainW
import Derived.Test.YtfgpipfjalmooaaGreatFirG
set_option linter.all false
noncomputable section
namespace Go.Proofs.YtfgpipfjalmooaaGreat
namespace Abs
open Go Tryz
section
def bE:TabL:={
 ty:=[(3,tInt),(4,.bool),(5,(.int .u8)),(9,.str),(22,(.slice bc)),(23,(.slice tInt)),(24,(.slice tCommit)),(36,(.slice aa)),(38,tCommit),(42,aO),(44,aa),(45,tInt),(60,bc),(87,aP),(94,(.slice ag)),(96,ah),(120,(.slice (.slice tInt))),(144,(.slice eL)),(146,ag),(168,eL),(179,(.slice (.int .u8)))],
 cells:=[(3,1),(4,1),(5,1),(9,1),(22,1),(23,1),(24,1),(36,1),(38,5),(42,4),(44,6),(45,1),(60,4),(87,1),(94,1),(96,1),(120,1),(144,1),(146,3),(168,5),(179,1)],
 offs:=[((38,0),0),((38,1),1),((38,2),2),((38,3),3),((38,4),4),((42,0),0),((42,1),1),((42,2),2),((42,3),3),((44,0),0),((44,1),1),((44,2),2),((60,0),0),((60,1),1),((60,2),2),((60,3),3),((87,0),0),((96,0),0),((146,0),0),((146,1),1),((146,2),2),((168,0),0),((168,1),1)],
 one:=[],
 elem:=[(22,60),(23,3),(24,38),(36,44),(94,146),(120,23),(144,168),(179,5)] }
def Mp:TabL:={
 ty:=[(3,tInt),(4,.bool),(5,(.int .u8)),(9,.str),(22,(.slice bc)),(23,(.slice tInt)),(24,(.slice tCommit)),(36,(.slice aa)),(38,tCommit),(42,aO),(44,aa),(45,tInt),(60,bc),(87,aP),(94,(.slice ag)),(96,ah),(120,(.slice (.slice tInt))),(144,(.slice eL)),(146,ag),(168,eL),(179,(.slice (.int .u8)))],
 cells:=[(3,1),(4,1),(5,1),(9,1),(22,1),(23,1),(24,1),(36,1),(38,5),(42,4),(44,6),(45,1),(60,4),(87,1),(94,1),(96,1),(120,1),(144,1),(146,3),(168,5),(179,1)],
 offs:=[((38,0),0),((38,1),1),((38,2),2),((38,3),3),((38,4),4),((42,0),0),((42,1),1),((42,2),2),((42,3),3),((44,0),0),((44,1),1),((44,2),2),((60,0),0),((60,1),1),((60,2),2),((60,3),3),((87,0),0),((96,0),0),((146,0),0),((146,1),1),((146,2),2),((168,0),0),((168,1),1)],
 one:=[],
 inp:=[22,23,24,36,94,120,144,179],
 elem:=[(22,60),(23,3),(24,38),(36,44),(94,146),(120,23),(144,168),(179,5)] }
def aB:TabOk prog bE.tab:=TabL.ok Φ
def Mo:TabOk prog Mp.tab:=TabL.ok Φ
variable{C:Type}
def qw (m:Bool)(K:Bool→Option C)(id:Int):Option C:=let a:Bool:=cond (id>1048576) (id<34603008) false;nq m [2,1] (id>1048576) (nm m 1 a (!(1048576:Int)=0) (nq m [2,1] a (K (cond a (!Int.tmod id 1048576=0) false))))
def bY (id:Int):Option Bool:=qw false some id
def eJ:Ent:=evE (.cons tInt .unit) ac (zero .bool) λx=>bY x.1
def qx:Par:=⟨bE.tab,aF [],λ_=>look [],λ_=>look []⟩
def fX:aj prog 146 (eJ):=evX func146 (S:=qx) aB (af trivial) (tys:=[.bool]) (λf x=>qw true (sm ac) x.1) (λx=>by show _=Option.map ac _;simp only[qw,bY,ss])
abbrev jd (C:Type):=Str→Int→Option C
def lj (m:Bool)(K:Bool→Option C)(g:jd C):jd C:=λf i=>let b:Bool:=!ixs f i<97;let a:=bd i f.length;cond (i<il f) (ck a (nm m 2 b a (nq m [2,0] b (cond (cond (ixs f i<97) true (ixs f i>122)) (K false) (fz m tInt (w64 (i+1)) (λj=>g f j)))))) (K true)
def um (m:Bool)(K:Bool→Option C)(g:jd C)(f:Str):Option C:=let c:Bool:=il f>60;let b:=w64 (il f-1);let a:Bool:=!cond (il f<1) true c;nq m [2,2,0] (!il f<1) (nq m [2,2] a (nm m 2 a (bd b f.length) (nq m [2,0] a (cond (cond (cond (il f<1) true c) true (ixs f b=97)) (K false) (g f 0)))))
def m0:Nat→jd Bool:=lp (λ_ _=>none) λf=>lj false some f
def lk (f:Str):Option Bool:=um false some (m0 FU) f
def Hv:Ent:=evE (.cons .str .unit) ac (zero .bool) λx=>lk x.1
def Bp:MS:=⟨0,[],[(0,.dat .str),(3,.dat tInt)]⟩
def Hw:Par:=⟨bE.tab,aF [],λ_=>look [],λ_=>look [(4,Bp)]⟩
def iD:KT:=bB bE.tab [.tmp 2] [.bool]
def h12 (S:Par)(f:Func)(g j:Nat)(p:List Nat):Sg→KT→Option AV:=xc (bu fi0 hs0 g 0) S j g (sub (f.body.getD .skip) p)
def Hx:=h12 Hw f234
def mZ (f n:Nat):jd AV:=λg i=>aT 0 Bp (Hx f 0 [1,1,0,1,0,0]) (am 0 (be 0 none (Hx f 0 [1,1,1]) iD)) n ⟨mkE 36 [(0,.val .str g),(3,.val tInt i)],mkH 0 []⟩
def L9 (f g:Nat):mZ f (g+1)=lj true (sm ac) (mZ f g):=Φ
def Ma:∀n,mZ FU n=mp2 ac (m0 n):=cM Φ λf _ h=>(L9 FU f).trans (by rw[h];funext _ _;simp only[lj,ss])
def Uv:aj prog 234 (Hv):=evX func234 (S:=Hw) aB (af trivial) (tys:=[.bool]) (λf x=>um true (sm ac) (mZ f f) x.1) (λx=>by show _=Option.map ac _;rw[Ma FU];simp only[um,lk,ss])
def ny (m:Bool)(K:Bool→Option C)(a:aa.den)(b:aa.den):Option C:=nq m [2,2,3,1] (a.1=b.1) (K (cond (a.1=b.1) (decide (a.2.1=b.2.1)) false))
def fq (a:aa.den)(b:aa.den):Option Bool:=ny false some a b
def BJ:Ent:=evE (.cons aa (.cons aa .unit)) ac (zero .bool) λx=>fq x.1 x.2.1
def M8:aj prog 323 (BJ):=evX func323 (S:=qx) aB (af trivial) (tys:=[.bool]) (λf x=>ny true (sm ac) x.1 x.2.1) (λx=>by show _=Option.map ac _;simp only[ny,fq,ss])
def Ae (m:Bool)(K:Bool→Option C)(a:aa.den)(b:aa.den):Option C:=cond (!a.1=b.1) (K (decide (a.1<b.1))) (K (decide (a.2.1<b.2.1)))
def iT (a:aa.den)(b:aa.den):Option Bool:=Ae false some a b
def GE:Ent:=evE (.cons aa (.cons aa .unit)) ac (zero .bool) λx=>iT x.1 x.2.1
def Pv:aj prog 322 (GE):=evX func322 (S:=qx) aB (af trivial) (tys:=[.bool]) (λf x=>Ae true (sm ac) x.1 x.2.1) (λx=>by show _=Option.map ac _;simp only[Ae,iT,ss])
abbrev bw:=Υ
abbrev uR (C:Type):=Υ→Int→Υ→Int→Option C
abbrev ac6 (C:Type):=Υ→Int→Int→Υ→Option C
def EN (m:Bool)(K:bw→Option C)(f:uR C):ac6 C:=λl id i out=>fz m tInt (w64 (i+1)) λg=>f l id out g
def EM (m:Bool)(K:bw→Option C)(f:uR C):uR C:=λl id out i=>let a:=bd i l.length;cond (i<il l) (ck a (cond ((ix aa l i).1=id) (ck a (ck (lm (List.length out+List.length ([ix aa l i]:List aa.den))) (fz m (.slice aa) (out++[ix aa l i]) (λg=>EN m K f l id i g)))) (EN m K f l id i out))) (K out)
def S5 (m:Bool)(K:bw→Option C)(f:uR C)(l:Υ)(id:Int):Option C:=f l id [] 0
def CH:Nat→uR bw:=lp (λ_ _ _ _=>none) λf=>EM false some f
def EP (l:Υ)(id:Int):Option bw:=S5 false some (CH FU) l id
def bG (r:bw):AV :=.val (.slice aa) r
def ae1:Ent:=evE (.cons (.slice aa) (.cons tInt .unit)) bG (zero (.slice aa)) λx=>EP x.1 x.2.1
def Ky:MS:=⟨0,[],[(0,.dat (.slice aa)),(1,.dat tInt),(5,.own aa 44),(6,.dat tInt)]⟩
def ae2:Par:=⟨bE.tab,aF [],λ_=>look [(4,Ky)],λ_=>look [(3,Ky)]⟩
def YX:KT:=bB bE.tab [.tmp 4] [(.slice aa)]
def ae3:=h12 ae2 f144
def CG (f n:Nat):uR AV:=λl id out i=>aT 0 Ky (ae3 f 0 [1,1,0,1,0,0]) (am 0 (be 0 none (ae3 f 0 [1,1,1]) YX)) n ⟨mkE 28 [(0,.val (.slice aa) l),(1,.val tInt id),(5,.own 0 0 aa out),(6,.val tInt i)],mkH 1 [(0,.row aa 44 0)]⟩
def ac7 (f g:Nat):CG f (g+1)=EM true (sm bG) (CG f g):=Φ
def ac8:∀n,CG FU n=mp4 bG (CH n):=cM Φ λf _ h=>(ac7 FU f).trans (by rw[h];funext _ _ _ _;simp only[EM,EN,ss])
def ahK:aj prog 144 (ae1):=evX func144 (S:=ae2) aB (af trivial) (tys:=[(.slice aa)]) (λf x=>S5 true (sm bG) (CG f f) x.1 x.2.1) (λx=>by show _=Option.map bG _;rw[ac8 FU];simp only[S5,EP,EN,ss])
abbrev bn (C:Type):=Υ→Int→Option C
def aeN (g:aa.den)(f:aa.den):Bool:=(iT g f).isSome
def aeO (g:aa.den)(f:aa.den):Bool:=(iT g f).getD (zero .bool)
def kZ (m:Bool)(K:Bool→Option C)(j:bn C):bn C:=λl i=>let g:=w64 (i-1);let h:=ix aa l g;let e:=bd i l.length;let c:=ix aa l i;cond (i<il l) (ck e (cl m .bool (bY c.1) (λr1=>let f:Bool:=!cond (!r1) true (c.2.1<1);let b:Bool:=cond (!r1) true (c.2.1<1);let d:Bool:=!cond b true (c.2.1≥48);let a:Bool:=!cond b true (c.2.1≥48)&&i>0;nm m 2 (!!r1) e (nq m [2,2,2,0] (!!r1) (nm m 2 f e (nq m [2,2,2,0] f (nq m [2,2] d (nq m [2] a (nm m 2 a (bd g l.length) (nq m [2] a (nm m 2 a e (nq m [2] a (nm m 2 a (aeN h c) (nq m [2] a (nm m 0 d (ii a&&true) (nq m [0] d (cond (cond (cond b true (c.2.1≥48)) true (cond (i>0) (!aeO h c) false)) (K false) (fz m tInt (w64 (i+1)) (λp=>j l p))))))))))))))))))) (K true)
def uf (m:Bool)(K:Bool→Option C)(f:bn C)(l:Υ):Option C:=f l 0
def mP:Nat→bn Bool:=lp (λ_ _=>none) λf=>kZ false some f
def k6 (l:Υ):Option Bool:=uf false some (mP FU) l
def Hk:Ent:=evE (.cons (.slice aa) .unit) ac (zero .bool) λx=>k6 x.1
def gu:MS:=⟨0,[],[(0,.dat (.slice aa)),(3,.dat tInt)]⟩
def Hl:Par:=⟨bE.tab,aF [(146,eJ),(322,GE)],λ_=>look [],λ_=>look [(2,gu)]⟩
def Hm:=h12 Hl f287
def mO (f n:Nat):bn AV:=λl i=>aT 0 gu (Hm f 0 [1,0,1,0,0]) (am 0 (be 0 none (Hm f 0 [1,1]) iD)) n ⟨mkE 50 [(0,.val (.slice aa) l),(3,.val tInt i)],mkH 0 []⟩
def LK (f g:Nat):mO f (g+1)=kZ true (sm ac) (mO f g):=Φ
def LL:∀n,mO FU n=mp2 ac (mP n):=cM Φ λf _ h=>(LK FU f).trans (by rw[h];funext _ _;simp only[kZ,ss])
def Un:aj prog 287 (Hk):=evX func287 (S:=Hl) aB (af ⟨fX,Pv,anO⟩) (tys:=[.bool]) (λf x=>uf true (sm ac) (mO f f) x.1) (λx=>by show _=Option.map ac _;rw[LL FU];simp only[uf,k6,ss])
def lg (m:Bool)(K:Bool→Option C)(f:bn C):bn C:=λl i=>cond (i<il l) (ck (bd i l.length) (cond (eqD aO (ix aa l i).2.2.1 (0,false,[],0,())) (K false) (fz m tInt (w64 (i+1)) (λg=>f l g)))) (cl m .bool (k6 l) (λr1=>K r1))
def ul (m:Bool)(K:Bool→Option C)(f:bn C)(l:Υ):Option C:=f l 0
def mY:Nat→bn Bool:=lp (λ_ _=>none) λf=>lg false some f
def lh (l:Υ):Option Bool:=ul false some (mY FU) l
def Hr:Ent:=evE (.cons (.slice aa) .unit) ac (zero .bool) λx=>lh x.1
def Ht:Par:=⟨bE.tab,aF [(287,Hk)],λ_=>look [],λ_=>look [(2,gu)]⟩
def Hu:=h12 Ht f232
def mX (f n:Nat):bn AV:=λl i=>aT 0 gu (Hu f 0 [1,0,1,0,0]) (am 0 (be 0 none (Hu f 0 [1,1]) iD)) n ⟨mkE 19 [(0,.val (.slice aa) l),(3,.val tInt i)],mkH 0 []⟩
def L6 (f g:Nat):mX f (g+1)=lg true (sm ac) (mX f g):=Φ
def L7:∀n,mX FU n=mp2 ac (mY n):=cM Φ λf _ h=>(L6 FU f).trans (by rw[h];funext _ _;simp only[lg,ss])
def Uu:aj prog 232 (Hr):=evX func232 (S:=Ht) aB (af ⟨Un,anO⟩) (tys:=[.bool]) (λf x=>ul true (sm ac) (mX f f) x.1) (λx=>by show _=Option.map ac _;rw[L7 FU];simp only[ul,lh,ss])
abbrev ld (C:Type):=aP.den→Int→Int→Int→Int→Option C
def Ec (g:aa.den)(f:aa.den):Bool:=(fq g f).isSome
def Qu (g:aa.den)(f:aa.den):Bool:=(fq g f).getD (zero .bool)
def oU (m:Bool)(K:aO.den→Option C)(j:ld C):ld C:=λf id field g r=>let c:=bd g f.1.length;let b:=ix aa f.1 g;let a:=Int.tdiv (w64 (g+r)) 2;let d:=w64 a;cond (g<r) (ck (!(2:Int)=0) (ck (bd d f.1.length) (cl m .bool (iT (ix aa f.1 d) (id,field,(0,false,[],0,()),())) (λr1=>cond r1 (fz m tInt (w64 (w64 a+1)) (λp=>j f id field p r)) (fz m tInt d (λl=>j f id field g l)))))) (nq m [2] (g<il f.1) (nm m 2 (g<il f.1) c (nq m [2] (g<il f.1) (nm m 2 (g<il f.1) (Ec b (id,field,(0,false,[],0,()),())) (nq m [1] (g<il f.1) (cond (cond (g<il f.1) (Qu b (id,field,(0,false,[],0,()),())) false) (ck c (K b.2.2.1)) (K (0,false,[],0,()))))))))
def xP (m:Bool)(K:aO.den→Option C)(f:ld C)(j:aP.den)(id:Int)(field:Int):Option C:=fz m tInt (il j.1) λg=>f j id field 0 g
def qu:Nat→ld aO.den:=lp (λ_ _ _ _ _=>none) λf=>oU false some f
def uk (f:aP.den)(id:Int)(field:Int):Option aO.den:=xP false some (qu FU) f id field
def cR (r:aO.den):AV :=.val aO r
def L0:Ent:=evE (.cons aP (.cons tInt (.cons tInt .unit))) cR (zero aO) λx=>uk x.1 x.2.1 x.2.2.1
def Dn:MS:=⟨6,[(0,[.dat (.slice aa)]),(1,[.dat tInt,.dat .bool,.dat .str,.dat tInt]),(5,[.dat tInt,.dat tInt,.dat tInt,.dat .bool,.dat .str,.dat tInt])],[(3,.keep),(6,.keep),(7,.keep),(8,.dat tInt),(9,.dat tInt)]⟩
def L3:Par:=⟨bE.tab,aF [(322,GE),(323,BJ)],λ_=>look [],λ_=>look [(3,Dn)]⟩
def XA:KT:=bB bE.tab [.cell 6 42] [aO]
def L4:=h12 L3 f288
def qq (f n:Nat):ld AV:=λg id field j l=>aT 0 Dn (L4 f 0 [1,1,1,0,0,0]) (am 0 (be 0 none (L4 f 0 [1,1,1,1]) XA)) n ⟨mkE 55 [(3,.box 0 0),(6,.box 1 0),(7,.box 5 0),(8,.val tInt j),(9,.val tInt l)],mkH 6 [(0,.box [.val (.slice aa) g.1]),(1,.box [.val tInt (0:Int),.val .bool false,.val .str [],.val tInt (0:Int)]),(5,.box [.val tInt id,.val tInt field,.val tInt (0:Int),.val .bool false,.val .str [],.val tInt (0:Int)])]⟩
def PJ (f g:Nat):qq f (g+1)=oU true (sm cR) (qq f g):=Φ
def PK:∀n,qq FU n=mp5 cR (qu n):=cM Φ λf _ h=>(PJ FU f).trans (by rw[h];funext _ _ _ _ _;simp only[oU,ss])
def Xz:aj prog 288 (L0):=evX func288 (S:=L3) aB (af ⟨Pv,M8,anO⟩) (tys:=[aO]) (λf x=>xP true (sm cR) (qq f f) x.1 x.2.1 x.2.2.1) (λx=>by show _=Option.map cR _;rw[PK FU];simp only[xP,uk,ss])
def K0 (m:Bool)(K:aO.den→Option C)(f:aP.den)(id:Int)(field:Int):Option C:=cl m aO (uk f id field) λr1=>K r1
def zA (f:aP.den)(id:Int)(field:Int):Option aO.den:=K0 false some f id field
def ZS:Ent:=evE (.cons aP (.cons tInt (.cons tInt .unit))) cR (zero aO) λx=>zA x.1 x.2.1 x.2.2.1
def agA:Par:=⟨bE.tab,aF [(288,L0)],λ_=>look [],λ_=>look []⟩
def agz:aj prog 233 (ZS):=evX func233 (S:=agA) aB (af ⟨Xz,anO⟩) (tys:=[aO]) (λf x=>K0 true (sm cR) x.1 x.2.1 x.2.2.1) (λx=>by show _=Option.map cR _;simp only[K0,zA,ss])
abbrev kP (C:Type):=aP.den→(List Int)→Int→Option C
abbrev Wm (C:Type):=Int→aP.den→(List Int)→Option C
def tF (m:Bool)(K:(List Int)→Option C)(f:kP C):Wm C:=λi j l=>fz m tInt (w64 (i+1)) λg=>f j l g
def tE (m:Bool)(K:(List Int)→Option C)(f:kP C):kP C:=λg l i=>let d:=w64 (i-1);let c:=bd i g.1.length;let b:Bool:=!i=0;let a:=ix aa g.1 i;cond (i<il g.1) (nq m [2] b (nm m 2 b c (nq m [2,2,2,2] b (nm m 2 b (bd d g.1.length) (nq m [2,2,3,0] b (cond (cond (i=0) true (! a.1=(ix aa g.1 d).1)) (ck c (ck (lm (List.length l+List.length ([a.1]:List Int))) (fz m (.slice tInt) (l++[a.1]) (λj=>tF m K f i g j)))) (tF m K f i g l))))))) (K l)
def CR (m:Bool)(K:(List Int)→Option C)(f:kP C)(g:aP.den):Option C:=f g [] 0
def vf:Nat→kP (List Int):=lp (λ_ _ _=>none) λf=>tE false some f
def tG (f:aP.den):Option (List Int):=CR false some (vf FU) f
def ay (r:(List Int)):AV :=.val (.slice tInt) r
def Tx:Ent:=evE (.cons aP .unit) ay (zero (.slice tInt)) λx=>tG x.1
def AN:MS:=⟨1,[(0,[.dat (.slice aa)])],[(1,.keep),(3,.own tInt 3),(4,.dat tInt)]⟩
def Tz:Par:=⟨bE.tab,aF [],λ_=>look [(4,AN)],λ_=>look [(3,AN)]⟩
def KR:KT:=bB bE.tab [.tmp 2] [(.slice tInt)]
def TA:=h12 Tz f184
def ve (f n:Nat):kP AV:=λg l i=>aT 0 AN (TA f 0 [1,1,0,1,0,0]) (am 0 (be 0 none (TA f 0 [1,1,1]) KR)) n ⟨mkE 40 [(1,.box 0 0),(3,.own 1 0 tInt l),(4,.val tInt i)],mkH 2 [(0,.box [.val (.slice aa) g.1]),(1,.row tInt 3 0)]⟩
def Wn (f g:Nat):ve f (g+1)=tE true (sm ay) (ve f g):=Φ
def Wo:∀n,ve FU n=mp3 ay (vf n):=cM Φ λf _ h=>(Wn FU f).trans (by rw[h];funext _ _ _;simp only[tE,tF,ss])
def adH:aj prog 184 (Tx):=evX func184 (S:=Tz) aB (af trivial) (tys:=[(.slice tInt)]) (λf x=>CR true (sm ay) (ve f f) x.1) (λx=>by show _=Option.map ay _;rw[Wo FU];simp only[CR,tG,tF,ss])
def oV (f:Int):Bool:=(bY f).isSome
def gx (f:Int):Bool:=(bY f).getD (zero .bool)
def qL (m:Bool)(K:Bool→Option C)(v:aO.den):Option C:=let j:=decide (v.1<5);let i:=K false;let h:=decide (v.1=12);let f:Bool:=!decide (v.1=16);let e:=bif h then true else(decide (v.1=16));let d:=decide (v.2.2.2.1=0);let c:Bool:=!decide (v.2.2.2.1=0);let b:=bif e then true else(decide (v.1=9));let g:=bif c then(! b)else false;let a:=bif j then true else(decide (v.1>22));(nq m [2,2,0] (! j) (nq m [2,2,2] (! a) (nq m [2] ((! a)&&c) (nm m 1 ((! a)&&c) (oV (v.2.2.2.1)) (nq m [2] ((! a)&&c) (nm m 0 (! a) ((ii ((! a)&&c))&&true) (nq m [0] (! a) (bif (bif a then true else(bif c then(!(gx (v.2.2.2.1)))else false))then i else(nq m [2,2,0] (! h) (nq m [2,2,0] (! e) (nq m [2,1] c (nq m [2,2,1] g (bif (bif g then(!decide (v.1=17))else false)then i else(nq m [2,2,2] (v.2.1) (nq m [2,2,2] (v.2.1&&(! d)) (nq m [2,2] ((v.2.1&&(! d))&&f) (nm m 0 (v.2.1&&(! d)) ((ii ((v.2.1&&(! d))&&f))&&true) (nm m 0 (v.2.1) (ii (v.2.1&&(! d))) (nq m [1] (v.2.1) (bif (bif v.2.1 then(bif d then true else(bif f then(!decide (v.1=9))else false))else false)then i else(nq m [2,2,1] b (bif (bif b then c else false)then(K (decide (v.2.2.1=[])))else(cl m .bool (gS (v.1) (v.2.2.1)) λr1=>(K r1))))))))))))))))))))))))
def jj (v:aO.den):Option Bool:=qL false some v
def DQ:Ent:=evE (.cons aO .unit) ac (zero .bool) λx=>jj x.1
def Qf:Par:=⟨bE.tab,aF [(146,eJ),(273,Bv)],λ_=>look [],λ_=>look []⟩
def Qe:aj prog 236 (DQ):=evX func236 (S:=Qf) aB (af ⟨fX,Mm,anO⟩) (tys:=[.bool]) (λf x=>qL true (sm ac) x.1) (λx=>by show _=Option.map ac _;simp only[qL,jj,ss])
def XJ (g:Str)(f:Bool):Bool:=(iE g f).isSome
def XK (g:Str)(f:Bool):Bool:=(iE g f).getD (zero .bool)
def vq (m:Bool)(K:Bool→Option C)(g:Int)(field:Int)(v:aO.den):Option C:=let f:=K false;let e:=cond (v.1<0) true (v.1>3);let d:Bool:=cond (g=1) (decide (field=10)) false;let c:Bool:=eqD aO v (0,false,v.2.2.1,0,())&&g=1;let b:Bool:=!cond e true v.2.1;let a:=eqD aO v (0,false,v.2.2.1,0,());cond (eqD aO v (0,false,[],0,())) (K true) (nq m [2,0] (!g<1) (cond (cond (g<1) true (g>5)) f (cond (field=1) (K (eqD aO v (g,false,[],0,()))) (nq m [2,1] (field=2) (cond (cond (field=2) (g=1) false) (K (eqD aO v (1,false,[],0,()))) (cond (field=2) (nq m [2,2,0] (!v.1<0) (nq m [2,0] (!cond (v.1<0) true (v.1>3)) (nq m [2] b (nm m 1 b (oV v.2.2.2.1) (nq m [2,0] b (cond (cond (cond e true v.2.1) true (!gx v.2.2.2.1)) f (cond (v.1=0) (cl m .bool (lk v.2.2.1) (λr1=>K r1)) (K (decide (v.2.2.1=[])))))))))) (nq m [2,1] (field=3) (cond (cond (field=3) (!g=5) false) (cl m tInt (kV v.2.2.1) (λj=>cond (!eqD aO v (0,false,v.2.2.1,0,())) f (nq m [2,0] (!g=1) (cond (cond (g=1) true (g=3)) (K (decide (j=2))) (K (decide (j=1))))))) (nq m [2,1] (field=4) (cond (cond (field=4) (g=5) false) (cl m .bool (jj v) (λl=>K l)) (nq m [2,1] (field≥8) (cond (cond (field≥8) (field<48) false) (nq m [2,2,2] a (nq m [2] c (nm m 0 a (ii c&&true) (nm m 2 a (XJ v.2.2.1 d) (nq m [1] a (K (cond a (XK v.2.2.1 d) false))))))) f))))))))))))
def iN (f:Int)(field:Int)(v:aO.den):Option Bool:=vq false some f field v
def AR:Ent:=evE (.cons tInt (.cons tInt (.cons aO .unit))) ac (zero .bool) λx=>iN x.1 x.2.1 x.2.2.1
def Wu:Par:=⟨bE.tab,aF [(146,eJ),(234,Hv),(235,Gi),(236,DQ),(237,HA)],λ_=>look [],λ_=>look []⟩
def IF:aj prog 186 (AR):=evX func186 (S:=Wu) aB (af ⟨fX,Uv,Pd,Qe,UB,anO⟩) (tys:=[.bool]) (λf x=>vq true (sm ac) x.1 x.2.1 x.2.2.1) (λx=>by show _=Option.map ac _;simp only[vq,iN,ss])
abbrev f9 (C:Type):=aP.den→Int→Bool→Bool→Int→Option C
abbrev Bz (C:Type):=aP.den→Int→Int→Bool→Bool→Option C
def pj (m:Bool)(K:Bool→Option C)(j:f9 C):Bz C:=λp i g named f=>fz m tInt (w64 (i+1)) λl=>j p g named f l
def iG (m:Bool)(K:Bool→Option C)(r:f9 C):Bz C:=λR i l named p=>let k:=w64 (i+1);let j:=il R.1-1;let d:=bd i R.1.length;let c:Bool:=!i=w64 j;let b:=ix aa R.1 i;let g:=cond named true (decide (b.2.1=3));let f:=cond p true (decide (b.2.1=4));let a:Bool:=!cond p true (b.2.1=4);let h:Bool:=!cond (l=5) a false&&!l=5;let e:Bool:=!cond (l=5) a false;ck d (ck d (cl m .bool (iN l b.2.1 b.2.2.1) (λT=>cond (!T) (K false) (nm m 2 (!named) d (nq m [2,2,2,0] (!named) (nm m 2 (!p) d (nq m [2,2,2,0] (!p) (nq m [2] c (nm m 2 c (bd k R.1.length) (nq m [2,2] c (nm m 2 c d (nq m [2,2,3,0] c (cond (cond (i=w64 j) true (!(ix aa R.1 k).1=b.1)) (nq m [2,1] (l=5) (nq m [2,2] e (nq m [2] h (nm m 0 e (ii h&&true) (nq m [0] e (cond (cond (cond (l=5) a false) true (cond (!l=5) (!cond named true (b.2.1=3)) false)) (K false) (fz m .bool g (λP=>fz m .bool f λJ=>pj m K r R i l P J)))))))) (fz m .bool g (λP=>fz m .bool f λJ=>pj m K r R i l P J)))))))))))))))
def ph (m:Bool)(K:Bool→Option C)(g:f9 C):f9 C:=λj l named f i=>let d:=w64 (i-1);let c:Bool:=!i=0;let b:=ix aa j.1 i;let a:=bd i j.1.length;cond (i<il j.1) (nm m 2 c a (nq m [2,2,2] c (nm m 2 c (bd d j.1.length) (nq m [2,2,3,0] c (cond (cond (i=0) true (! b.1=(ix aa j.1 d).1)) (ck a (cond (! b.2.1=1) (K false) (ck a (fz m tInt b.2.2.1.1 (λp=>iG m K g j i p false false))))) (iG m K g j i l named f)))))) (K true)
def x9 (m:Bool)(K:Bool→Option C)(f:f9 C)(g:aP.den):Option C:=cl m .bool (lh g.1) λr1=>cond (!r1) (K false) (f g 0 false false 0)
def lA:Nat→f9 Bool:=lp (λ_ _ _ _ _=>none) λf=>ph false some f
def pl (f:aP.den):Option Bool:=x9 false some (lA FU) f
def MA:Ent:=evE (.cons aP .unit) ac (zero .bool) λx=>pl x.1
def qE:MS:=⟨0,[],[(3,.dat (.slice aa)),(4,.dat tInt),(5,.dat .bool),(6,.dat .bool),(7,.dat tInt)]⟩
def MB:Par:=⟨bE.tab,aF [(232,Hr),(186,AR)],λ_=>look [(12,qE),(7,qE)],λ_=>look [(6,qE)]⟩
def MC:=h12 MB f183
def qG (g n:Nat):f9 AV:=λl j named f i=>aT 0 qE (MC g 0 [1,1,1,1,0,1,0,0]) (am 0 (be 0 none (MC g 0 [1,1,1,1,1]) iD)) n ⟨mkE 111 [(3,.val (.slice aa) l.1),(4,.val tInt j),(5,.val .bool named),(6,.val .bool f),(7,.val tInt i)],mkH 0 []⟩
def P0 (f g:Nat):qG f (g+1)=ph true (sm ac) (qG f g):=Φ
def P4:∀n,qG FU n=mp5 ac (lA n):=cM Φ λf _ h=>(P0 FU f).trans (by rw[h];funext _ _ _ _ _;simp only[ph,iG,pj,ss])
def Yb:aj prog 183 (MA):=evX func183 (S:=MB) aB (af ⟨Uu,IF,anO⟩) (tys:=[.bool]) (λf x=>x9 true (sm ac) (qG f f) x.1) (λx=>by show _=Option.map ac _;rw[P4 FU];simp only[x9,pl,iG,pj,ss])
abbrev hO (C:Type):=Int→Int→aP.den→Int→Int→Option C
def jr (m:Bool)(K:Bool→Option C)(g:hO C):hO C:=λl f p id i=>cond (i<f) (cl m aO (zA p id 2) (λr1=>cond (r1.2.2.2.1=l) (K true) (cond (r1.2.2.2.1=0) (K false) (fz m tInt (w64 (i+1)) (λj=>g l f p r1.2.2.2.1 j))))) (K false)
def qQ (m:Bool)(K:Bool→Option C)(g:hO C)(l:aP.den)(id:Int)(j:Int)(f:Int):Option C:=g j f l id 0
def ku:Nat→hO Bool:=lp (λ_ _ _ _ _=>none) λf=>jr false some f
def gA (j:aP.den)(id:Int)(g:Int)(f:Int):Option Bool:=qQ false some (ku FU) j id g f
def Ee:Ent:=evE (.cons aP (.cons tInt (.cons tInt (.cons tInt .unit)))) ac (zero .bool) λx=>gA x.1 x.2.1 x.2.2.1 x.2.2.2.1
def yo:MS:=⟨1,[(0,[.dat (.slice aa)])],[(1,.dat tInt),(2,.dat tInt),(3,.dat tInt),(4,.keep),(9,.dat tInt)]⟩
def Ef:Par:=⟨bE.tab,aF [(233,ZS)],λ_=>look [],λ_=>look [(2,yo)]⟩
def Qx:KT:=bB bE.tab [.tmp 8] [.bool]
def Eg:=h12 Ef f185
def kr (f n:Nat):hO AV:=λj g l id i=>aT 0 yo (Eg f 0 [1,0,1,0,0]) (am 0 (be 0 none (Eg f 0 [1,1]) Qx)) n ⟨mkE 24 [(1,.val tInt id),(2,.val tInt j),(3,.val tInt g),(4,.box 0 0),(9,.val tInt i)],mkH 1 [(0,.box [.val (.slice aa) l.1])]⟩
def J5 (f g:Nat):kr f (g+1)=jr true (sm ac) (kr f g):=Φ
def J6:∀n,kr FU n=mp5 ac (ku n):=cM Φ λf _ h=>(J5 FU f).trans (by rw[h];funext _ _ _ _ _;simp only[jr,ss])
def Qw:aj prog 185 (Ee):=evX func185 (S:=Ef) aB (af ⟨agz,anO⟩) (tys:=[.bool]) (λf x=>qQ true (sm ac) (kr f f) x.1 x.2.1 x.2.2.1 x.2.2.2.1) (λx=>by show _=Option.map ac _;rw[J6 FU];simp only[qQ,gA,ss])
abbrev gK (C:Type):=Int→(List Int)→aP.den→(List Int)→Int→Option C
abbrev Pl (C:Type):=Int→(List Int)→Int→aP.den→(List Int)→Option C
def mE (m:Bool)(K:(List Int)→Option C)(f:gK C):Pl C:=λid l i j out=>fz m tInt (w64 (i+1)) λg=>f id l j out g
def HW (l:aP.den)(j:Int)(g:Int)(f:Int):Bool:=(gA l j g f).isSome
def Vh (l:aP.den)(j:Int)(g:Int)(f:Int):Bool:=(gA l j g f).getD (zero .bool)
def mD (m:Bool)(K:(List Int)→Option C)(g:gK C):gK C:=λid f j out i=>let d:=ix tInt f i;let c:=w64 (il f+1);let b:=bd i f.length;let a:Bool:=!ix tInt f i=id;cond (i<il f) (ck b (nm m 2 a b (nq m [2,2,2] a (ck (ii a&&(ii a&&(ii a&&(ii a&&true)))&&aN a (HW j d id c)) (nq m [1] a (cond (cond a (Vh j d id c) false) (ck b (ck (lm (List.length out+List.length ([ix tInt f i]:List Int))) (fz m (.slice tInt) (out++[ix tInt f i]) (λl=>mE m K g id f i j l)))) (mE m K g id f i j out))))))) (K out)
def vE (m:Bool)(K:(List Int)→Option C)(f:gK C)(g:aP.den)(id:Int):Option C:=cl m .bool (pl g) λr1=>nm m 1 (!!r1) (oV id) (nq m [2,0] (!!r1) (cond (cond (!r1) true (!gx id)) (K []) (cl m (.slice tInt) (tG g) (λj=>f id j g [] 0))))
def nW:Nat→gK (List Int):=lp (λ_ _ _ _ _=>none) λf=>mD false some f
def mF (f:aP.den)(id:Int):Option (List Int):=vE false some (nW FU) f id
def I7:Ent:=evE (.cons aP (.cons tInt .unit)) ay (zero (.slice tInt)) λx=>mF x.1 x.2.1
def tW:MS:=⟨1,[(0,[.dat (.slice aa)])],[(1,.dat tInt),(2,.keep),(5,.own tInt 3),(6,.dat (.slice tInt)),(7,.dat tInt)]⟩
def I8:Par:=⟨bE.tab,aF [(183,MA),(146,eJ),(184,Tx),(185,Ee)],λ_=>look [(7,tW)],λ_=>look [(6,tW)]⟩
def vF:KT:=bB bE.tab [.tmp 4] [(.slice tInt)]
def I9:=h12 I8 f143
def nV (f n:Nat):gK AV:=λid j g out i=>aT 0 tW (I9 f 0 [1,1,1,1,0,1,0,0]) (am 0 (be 0 none (I9 f 0 [1,1,1,1,1]) vF)) n ⟨mkE 50 [(1,.val tInt id),(2,.box 0 0),(5,.own 1 0 tInt out),(6,.val (.slice tInt) j),(7,.val tInt i)],mkH 2 [(0,.box [.val (.slice aa) g.1]),(1,.row tInt 3 0)]⟩
def Pm (f g:Nat):nV f (g+1)=mD true (sm ay) (nV f g):=Φ
def Pn:∀n,nV FU n=mp5 ay (nW n):=cM Φ λf _ h=>(Pm FU f).trans (by rw[h];funext _ _ _ _ _;simp only[mD,mE,ss])
def WW:aj prog 143 (I7):=evX func143 (S:=I8) aB (af ⟨Yb,fX,adH,Qw,anO⟩) (tys:=[(.slice tInt)]) (λf x=>vE true (sm ay) (nV f f) x.1 x.2.1) (λx=>by show _=Option.map ay _;rw[Pn FU];simp only[vE,mF,mE,ss])
abbrev fR (C:Type):=(List Int)→Int→Int→Option C
def zw (m:Bool)(K:Bool→Option C)(f:fR C):fR C:=λl x i=>cond (i<il l) (ck (bd i l.length) (cond (ix tInt l i=x) (K true) (fz m tInt (w64 (i+1)) (λg=>f l x g)))) (K false)
def KX (m:Bool)(K:Bool→Option C)(f:fR C)(l:(List Int))(x:Int):Option C:=f l x 0
def zu:Nat→fR Bool:=lp (λ_ _ _=>none) λf=>zw false some f
def nP (l:(List Int))(x:Int):Option Bool:=KX false some (zu FU) l x
def xq:Ent:=evE (.cons (.slice tInt) (.cons tInt .unit)) ac (zero .bool) λx=>nP x.1 x.2.1
def FE:MS:=⟨0,[],[(0,.dat (.slice tInt)),(1,.dat tInt),(5,.dat tInt)]⟩
def KY:Par:=⟨bE.tab,aF [],λ_=>look [],λ_=>look [(2,FE)]⟩
def agx:KT:=bB bE.tab [.tmp 4] [.bool]
def ZP:=h12 KY f17
def zt (f n:Nat):fR AV:=λl x i=>aT 0 FE (ZP f 0 [1,0,1,0,0]) (am 0 (be 0 none (ZP f 0 [1,1]) agx)) n ⟨mkE 18 [(0,.val (.slice tInt) l),(1,.val tInt x),(5,.val tInt i)],mkH 0 []⟩
def ZN (f g:Nat):zt f (g+1)=zw true (sm ac) (zt f g):=Φ
def ZO:∀n,zt FU n=mp3 ac (zu n):=cM Φ λf _ h=>(ZN FU f).trans (by rw[h];funext _ _ _;simp only[zw,ss])
def AO:aj prog 17 (xq):=evX func17 (S:=KY) aB (af trivial) (tys:=[.bool]) (λf x=>KX true (sm ac) (zt f f) x.1 x.2.1) (λx=>by show _=Option.map ac _;rw[ZO FU];simp only[KX,nP,ss])
def yu (m:Bool)(K:(List Int)→Option C)(g:fR C):fR C:=λl x f=>let d:=Int.toNat f;let c:=List.take (List.length l) l;let b:=w64 (f-1);let e:=bd b l.length;let a:=List.take d l;nq m [2] (f>0) (nm m 2 (f>0) e (nq m [2,3,1] (f>0) (cond (cond (f>0) (ix tInt l b≥x) false) (ck e (cond (ix tInt l b=x) (K l) (fz m tInt b (λj=>g l x j)))) (ck (0≤f&&f≤(l.length:Int)) (ck (lm (List.length ([]:List Int)+List.length (a.drop 0))) (ck (lm (List.length ([]++a.drop 0)+List.length ([x]:List Int))) (ck (0≤f&&f≤(l.length:Int)) (ck (lm (List.length ([]++a.drop 0++[x])+List.length (c.drop d))) (K ([]++a.drop 0++[x]++c.drop d))))))))))
def J7 (m:Bool)(K:(List Int)→Option C)(f:fR C)(l:(List Int))(x:Int):Option C:=fz m tInt (il l) λg=>f l x g
def yt:Nat→fR (List Int):=lp (λ_ _ _=>none) λf=>yu false some f
def uM (l:(List Int))(x:Int):Option (List Int):=J7 false some (yt FU) l x
def QA:Ent:=evE (.cons (.slice tInt) (.cons tInt .unit)) ay (zero (.slice tInt)) λx=>uM x.1 x.2.1
def YC:=h12 KY f19
def yq (f n:Nat):fR AV:=λl x g=>aT 0 FE (YC f 0 [1,1,0,0,0]) (am 0 (be 0 none (YC f 0 [1,1,1]) vF)) n ⟨mkE 44 [(0,.val (.slice tInt) l),(1,.val tInt x),(5,.val tInt g)],mkH 0 []⟩
def YA (f g:Nat):yq f (g+1)=yu true (sm ay) (yq f g):=Φ
def YB:∀n,yq FU n=mp3 ay (yt n):=cM Φ λf _ h=>(YA FU f).trans (by rw[h];funext _ _ _;simp only[yu,ss])
def Yz:aj prog 19 (QA):=evX func19 (S:=KY) aB (af trivial) (tys:=[(.slice tInt)]) (λf x=>J7 true (sm ay) (yq f f) x.1 x.2.1) (λx=>by show _=Option.map ay _;rw[YB FU];simp only[J7,uM,ss])
abbrev l6 (C:Type):=(List Int)→Int→Option C
def pK (m:Bool)(K:Bool→Option C)(f:l6 C):l6 C:=λl i=>let d:=w64 (i-1);let b:=bd i l.length;cond (i<il l) (ck b (cl m .bool (bY (ix tInt l i)) (λr1=>let c:Bool:=!!r1;let a:Bool:=!!r1&&i>0;nq m [2,2] c (nm m 2 a b (nq m [2,2] a (nm m 2 a (bd d l.length) (nq m [2,3] a (nm m 0 c (ii a&&true) (nq m [0] c (cond (cond (!r1) true (cond (i>0) (ix tInt l i≤ix tInt l d) false)) (K false) (fz m tInt (w64 (i+1)) (λg=>f l g)))))))))))) (K true)
def zn (m:Bool)(K:Bool→Option C)(f:l6 C)(l:(List Int)):Option C:=f l 0
def ri:Nat→l6 Bool:=lp (λ_ _=>none) λf=>pK false some f
def kQ (l:(List Int)):Option Bool:=zn false some (ri FU) l
def Oa:Ent:=evE (.cons (.slice tInt) .unit) ac (zero .bool) λx=>kQ x.1
def Fw:MS:=⟨0,[],[(0,.dat (.slice tInt)),(3,.dat tInt)]⟩
def Ob:Par:=⟨bE.tab,aF [(146,eJ)],λ_=>look [],λ_=>look [(2,Fw)]⟩
def Oc:=h12 Ob f147
def rh (f n:Nat):l6 AV:=λl i=>aT 0 Fw (Oc f 0 [1,0,1,0,0]) (am 0 (be 0 none (Oc f 0 [1,1]) iD)) n ⟨mkE 32 [(0,.val (.slice tInt) l),(3,.val tInt i)],mkH 0 []⟩
def Rv (f g:Nat):rh f (g+1)=pK true (sm ac) (rh f g):=Φ
def Rx:∀n,rh FU n=mp2 ac (ri n):=cM Φ λf _ h=>(Rv FU f).trans (by rw[h];funext _ _;simp only[pK,ss])
def ZH:aj prog 147 (Oa):=evX func147 (S:=Ob) aB (af ⟨fX,anO⟩) (tys:=[.bool]) (λf x=>zn true (sm ac) (rh f f) x.1) (λx=>by show _=Option.map ac _;rw[Rx FU];simp only[zn,kQ,ss])
abbrev jt (C:Type):=tCommit.den→Int→Option C
def lN (m:Bool)(K:Bool→Option C)(f:jt C):jt C:=λc i=>let b:=bd i c.2.2.2.1.length;let a:Bool:=!ixs c.2.2.2.1 i<32;cond (i<il c.2.2.2.1) (ck b (nq m [2] a (nm m 2 a b (nq m [2,0] a (cond (cond (ixs c.2.2.2.1 i<32) true (ixs c.2.2.2.1 i>126)) (K false) (fz m tInt (w64 (i+1)) (λg=>f c g))))))) (K true)
def TB (f:(List Int)):Bool:=(kQ f).isSome
def bI (f:(List Int)):Bool:=(kQ f).getD (zero .bool)
def BY (g:(List Int))(f:Int):Bool:=(nP g f).isSome
def pR (g:(List Int))(f:Int):Bool:=(nP g f).getD (zero .bool)
def uN (m:Bool)(K:Bool→Option C)(p:jt C)(c:tCommit.den):Option C:=let o:Bool:=il c.2.1>4;let n:Bool:=!bI c.2.2.1;let l:=pR c.2.1 c.1;let j:=pR c.2.2.1 c.1;let d:Bool:=il c.2.2.1>4;cl m .bool (bY c.1) λr1=>let f:=cond (!r1) true (!bI c.2.1);let i:=cond f true n;let e:Bool:=!cond (!r1) true (!bI c.2.1);let a:=cond i true o;let k:=cond a true d;let h:Bool:=!cond a true d;let g:=cond k true l;let b:Bool:=!cond k true l;nq m [2] (!!r1) (nm m 1 (!!r1) (TB c.2.1) (nq m [2,0] (!!r1) (nq m [2] e (nm m 1 e (TB c.2.2.1) (nq m [2,0] e (nq m [2,2,2,0] (!cond f true n) (nq m [2,2,2,0] (!cond i true o) (nq m [2,2] h (nm m 2 h (BY c.2.1 c.1) (nq m [0] h (nq m [2,2] b (nm m 2 b (BY c.2.2.1 c.1) (nq m [0] b (nq m [2,2,2,0] (!cond g true j) (cond (cond (cond g true j) true (il c.2.2.2.1>80)) (K false) (p c 0))))))))))))))))
def nA:Nat→jt Bool:=lp (λ_ _=>none) λf=>lN false some f
def lO (c:tCommit.den):Option Bool:=uN false some (nA FU) c
def H3:Ent:=evE (.cons tCommit .unit) ac (zero .bool) λx=>lO x.1
def BK:MS:=⟨1,[(0,[.dat tInt,.dat (.slice tInt),.dat (.slice tInt),.dat .str,.dat (.slice aa)])],[(1,.keep),(3,.dat tInt)]⟩
def H4:Par:=⟨bE.tab,aF [(146,eJ),(147,Oa),(17,xq)],λ_=>look [],λ_=>look [(4,BK)]⟩
def H5:=h12 H4 f104
def nz (f n:Nat):jt AV:=λc i=>aT 0 BK (H5 f 0 [1,1,0,1,0,0]) (am 0 (be 0 none (H5 f 0 [1,1,1]) iD)) n ⟨mkE 71 [(1,.box 0 0),(3,.val tInt i)],mkH 1 [(0,.box [.val tInt c.1,.val (.slice tInt) c.2.1,.val (.slice tInt) c.2.2.1,.val .str c.2.2.2.1,.val (.slice aa) c.2.2.2.2.1])]⟩
def Ng (f g:Nat):nz f (g+1)=lN true (sm ac) (nz f g):=Φ
def Nh:∀n,nz FU n=mp2 ac (nA n):=cM Φ λf _ h=>(Ng FU f).trans (by rw[h];funext _ _;simp only[lN,ss])
def Vk:aj prog 104 (H3):=evX func104 (S:=H4) aB (af ⟨fX,ZH,AO,anO⟩) (tys:=[.bool]) (λf x=>uN true (sm ac) (nz f f) x.1) (λx=>by show _=Option.map ac _;rw[Nh FU];simp only[uN,lO,ss])
abbrev kY:=(Ty.den (.cons aO (.cons .bool .unit)))
abbrev gN (C:Type):=Υ→Int→Int→Int→Option C
def i9 (m:Bool)(K:kY→Option C)(f:gN C):gN C:=λw id field i=>let b:=bd i w.length;let a:=ix aa w i;cond (i≥0) (ck b (nm m 2 (a.1=id) b (nq m [2,2,3,1] (a.1=id) (cond (cond (a.1=id) (a.2.1=field) false) (ck b (K (a.2.2.1,true,()))) (fz m tInt (w64 (i-1)) (λg=>f w id field g)))))) (K ((0,false,[],0,()),false,()))
def p8 (m:Bool)(K:kY→Option C)(f:gN C)(w:Υ)(id:Int)(field:Int):Option C:=fz m tInt (w64 (il w-1)) λg=>f w id field g
def jX:Nat→gN kY:=lp (λ_ _ _ _=>none) λf=>i9 false some f
def eG (w:Υ)(id:Int)(field:Int):Option kY:=p8 false some (jX FU) w id field
def kX (r:kY):AV :=.tup (bh [.val aO r.1,.val .bool r.2.1])
def p9:Ent:=evE (.cons (.slice aa) (.cons tInt (.cons tInt .unit))) kX (zero (.cons aO (.cons .bool .unit))) λx=>eG x.1 x.2.1 x.2.2.1
def xI:MS:=⟨1,[(0,[.dat tInt,.dat .bool,.dat .str,.dat tInt])],[(0,.dat (.slice aa)),(1,.dat tInt),(2,.dat tInt),(6,.keep),(8,.dat tInt)]⟩
def C8:Par:=⟨bE.tab,aF [],λ_=>look [],λ_=>look [(2,xI)]⟩
def Pz:KT:=bB bE.tab [.cell 6 42,.tmp 7] [aO,.bool]
def C9:=h12 C8 f64
def jW (f n:Nat):gN AV:=λw id field i=>aT 0 xI (C9 f 0 [1,0,1,0,0]) (am 0 (be 0 none (C9 f 0 [1,1]) Pz)) n ⟨mkE 38 [(0,.val (.slice aa) w),(1,.val tInt id),(2,.val tInt field),(6,.box 0 0),(8,.val tInt i)],mkH 1 [(0,.box [.val tInt (0:Int),.val .bool false,.val .str [],.val tInt (0:Int)])]⟩
def Jg (f g:Nat):jW f (g+1)=i9 true (sm kX) (jW f g):=Φ
def Jh:∀n,jW FU n=mp4 kX (jX n):=cM Φ λf _ h=>(Jg FU f).trans (by rw[h];funext _ _ _ _;simp only[i9,ss])
def wL:aj prog 64 (p9):=evX func64 (S:=C8) aB (af trivial) (tys:=[aO,.bool]) (λf x=>p8 true (sm kX) (jW f f) x.1 x.2.1 x.2.2.1) (λx=>by show _=Option.map kX _;rw[Jh FU];simp only[p8,eG,ss])
def CN (m:Bool)(K:Int→Option C)(s:ah.den)(id:Int):Option C:=ce m (.slice eL) (cj s id 1) (iy s id 1) λr1=>cond (il r1=0) (K 0) (ck (bd 0 r1.length) (K (ix eL r1 0).2.1.1))
def fQ (s:ah.den)(id:Int):Option Int:=CN false some s id
def zb:Ent:=evE (.cons ah (.cons tInt .unit)) av (zero tInt) λx=>fQ x.1 x.2.1
def To:Par:=⟨bE.tab,aF [(141,C2)],λ_=>look [],λ_=>look []⟩
def CM:aj prog 95 (zb):=evX func95 (S:=To) aB (af ⟨LA,anO⟩) (tys:=[tInt]) (λf x=>CN true (sm av) x.1 x.2.1) (λx=>by show _=Option.map av _;simp only[CN,fQ,ss])
def u0 (m:Bool)(K:Int→Option C)(s:ah.den)(w:Υ)(id:Int):Option C:=cl m tInt (fQ s id) λr1=>cond (!r1=0) (K r1) (cl m (.cons aO (.cons .bool .unit)) (eG w id 1) (λf=>K f.1.1))
def lW (s:ah.den)(w:Υ)(id:Int):Option Int:=u0 false some s w id
def Il:Ent:=evE (.cons ah (.cons (.slice aa) (.cons tInt .unit))) av (zero tInt) λx=>lW x.1 x.2.1 x.2.2.1
def VY:Par:=⟨bE.tab,aF [(95,zb),(64,p9)],λ_=>look [],λ_=>look []⟩
def VX:aj prog 149 (Il):=evX func149 (S:=VY) aB (af ⟨CM,wL,anO⟩) (tys:=[tInt]) (λf x=>u0 true (sm av) x.1 x.2.1 x.2.2.1) (λx=>by show _=Option.map av _;simp only[u0,lW,ss])
def re (m:Bool)(K:Bool→Option C)(f:Int):Option C:=let b:Bool:=!cond (f≥1) (f≤4) false&&f≥8;let a:Bool:=!cond (f≥1) (f≤4) false;nq m [2,1] (f≥1) (nq m [2,2] a (nq m [2] b (nm m 0 a (ii b&&true) (nq m [0] a (K (cond (cond (f≥1) (f≤4) false) true (cond (f≥8) (decide (f<48)) false)))))))
def gI (f:Int):Option Bool:=re false some f
def Fp:Ent:=evE (.cons tInt .unit) ac (zero .bool) λx=>gI x.1
def Rk:aj prog 148 (Fp):=evX func148 (S:=qx) aB (af trivial) (tys:=[.bool]) (λf x=>re true (sm ac) x.1) (λx=>by show _=Option.map ac _;simp only[re,gI,ss])
def xZ (m:Bool)(K:Bool→Option C)(f:Int)(field:Int)(v:aO.den):Option C:=let a:Bool:=!decide (field=3);(cl m .bool (iN f field v) λr1=>(nq m [3,2] r1 (nq m [2,2] (r1&&(!(!eqD aO v (0,false,[],0,())))) (nq m [2] ((r1&&(!(!eqD aO v (0,false,[],0,()))))&&a) (nm m 0 (r1&&(!(!eqD aO v (0,false,[],0,())))) ((ii ((r1&&(!(!eqD aO v (0,false,[],0,()))))&&a))&&true) (nm m 0 r1 (ii (r1&&(!(!eqD aO v (0,false,[],0,()))))) (nq m [1] r1 (K (bif r1 then(bif (!eqD aO v (0,false,[],0,()))then true else(bif a then(!decide (field=4))else false))else false)))))))))
def pe (f:Int)(field:Int)(v:aO.den):Option Bool:=xZ false some f field v
def Mr:Ent:=evE (.cons tInt (.cons tInt (.cons aO .unit))) ac (zero .bool) λx=>pe x.1 x.2.1 x.2.2.1
def XU:Par:=⟨bE.tab,aF [(186,AR)],λ_=>look [],λ_=>look []⟩
def XT:aj prog 150 (Mr):=evX func150 (S:=XU) aB (af ⟨IF,anO⟩) (tys:=[.bool]) (λf x=>xZ true (sm ac) x.1 x.2.1 x.2.2.1) (λx=>by show _=Option.map ac _;simp only[xZ,pe,ss])
abbrev i4 (C:Type):=tCommit.den→aa.den→Int→Option C
def kC (m:Bool)(K:Int→Option C)(f:aG C):i4 C:=λc x g=>cl m (.cons aO (.cons .bool .unit)) (eG c.2.2.2.2.1 x.1 g) λj=>cond (!j.2.1) (K 16) f
def kB (m:Bool)(K:Int→Option C):aG C:=(K 0)
def We (f:Int):Bool:=(gI f).isSome
def Wf (f:Int):Bool:=(gI f).getD (zero .bool)
def rn (m:Bool)(K:Int→Option C)(f:i4 C)(g:aG C)(s:ah.den)(c:tCommit.den)(x:aa.den):Option C:=let a:=cond (x.2.2.1.1<1) true (x.2.2.1.1>5);cl m .bool (bY x.1) λr1=>let b:Bool:=!cond (!r1) true (x.1=c.1);nq m [2,2,3,0] (!!r1) (nq m [2] b (nm m 1 b (We x.2.1) (nq m [2,0] b (cond (cond (cond (!r1) true (x.1=c.1)) true (!Wf x.2.1)) (K 5) (cl m tInt (fQ s x.1) (λj=>cond (x.2.1=1) (nq m [2,2,2,0] (!x.2.2.1.1<1) (nq m [2,2,2,2,3,0] (!cond (x.2.2.1.1<1) true (x.2.2.1.1>5)) (nq m [2,2] (!cond a true (!eqD aO x.2.2.1 (x.2.2.1.1,false,[],0,()))) (nq m [2,2,3] (!cond a true (!eqD aO x.2.2.1 (x.2.2.1.1,false,[],0,()))&&!j=0) (nm m 0 (!cond a true (!eqD aO x.2.2.1 (x.2.2.1.1,false,[],0,()))) (ii (!cond a true (!eqD aO x.2.2.1 (x.2.2.1.1,false,[],0,()))&&!j=0)&&true) (nq m [0] (!cond a true (!eqD aO x.2.2.1 (x.2.2.1.1,false,[],0,()))) (cond (cond (cond a true (!eqD aO x.2.2.1 (x.2.2.1.1,false,[],0,()))) true (cond (!j=0) (!j=x.2.2.1.1) false)) (K 10) (cond (j=0) (cond (x.2.2.1.1=5) (f c x 4) (f c x 3)) g)))))))) (cl m tInt (lW s c.2.2.2.2.1 x.1) (λl=>cond (l=0) (K 7) (cl m .bool (pe l x.2.1 x.2.2.1) (λp=>cond (!p) (K 13) (K 0)))))))))))
def fT:aG Int:=kB false some
def i6:i4 Int:=kC false some fT
def jC (s:ah.den)(c:tCommit.den)(x:aa.den):Option Int:=rn false some i6 fT s c x
def FH:Ent:=evE (.cons ah (.cons tCommit (.cons aa .unit))) av (zero tInt) λx=>jC x.1 x.2.1 x.2.2.1
def G0:MS:=⟨3,[(0,[.drop]),(1,[.dat tInt,.dat (.slice tInt),.dat (.slice tInt),.dat .str,.dat (.slice aa)]),(2,[.dat tInt,.dat tInt,.dat tInt,.dat .bool,.dat .str,.dat tInt])],[(4,.keep),(5,.keep),(8,.dat tInt)]⟩
def FI:Par:=⟨bE.tab,aF [(146,eJ),(148,Fp),(95,zb),(149,Il),(150,Mr),(64,p9)],λ_=>look [(11,G0),(14,bZ)],λ_=>look []⟩
def FK:KT:=bB bE.tab [.tmp 6] [tInt]
def mj:=h12 FI f106
def oF (f:Nat):i4 AV:=λc x g=>mj f 0 [1,1,1,0,1,0,1,0,1,0,1,1] ⟨mkE 98 [(4,.box 1 0),(5,.box 2 0),(8,.val tInt g)],mkH 3 [(0,.box [.unk]),(1,.box [.val tInt c.1,.val (.slice tInt) c.2.1,.val (.slice tInt) c.2.2.1,.val .str c.2.2.2.1,.val (.slice aa) c.2.2.2.2.1]),(2,.box [.val tInt x.1,.val tInt x.2.1,.val tInt x.2.2.1.1,.val .bool x.2.2.1.2.1,.val .str x.2.2.1.2.2.1,.val tInt x.2.2.1.2.2.2.1])]⟩ (be 0 (some bZ) (mj f 0 [1,1,1,0,1,0,1,1]) (be 0 none (mj f 0 [1,1,1,1]) FK))
def i5 (f:Nat):aG AV:=mj f 0 [1,1,1,0,1,0,1,1] ⟨mkE 98 [],mkH 0 []⟩ (be 0 none (mj f 0 [1,1,1,1]) FK)
def G2 (f:Nat):oF f=kC true (sm av) (i5 f):=Φ
def G1 (f:Nat):i5 f=kB true (sm av):=Φ
def wC:i5 FU=mp0 av (fT):=(G1 FU).trans (by simp only[kB,fT,ss])
def G3:oF FU=mp3 av (i6):=(G2 FU).trans (by rw[wC];funext _ _ _;simp only[kC,i6,ss])
def RL:aj prog 106 (FH):=evX func106 (S:=FI) aB (af ⟨fX,Rk,CM,VX,XT,wL,anO⟩) (tys:=[tInt]) (λf x=>rn true (sm av) (oF f) (i5 f) x.1 x.2.1 x.2.2.1) (λx=>by show _=Option.map av _;rw[G3,wC];simp only[rn,jC,ss])
def eW (m:Bool)(K:Bool→Option C)(f:bn C):bn C:=λl i=>let e:=ix aa l i;let c:=bd i l.length;let a:=w64 (i-1);let d:=ix aa l a;let b:=bd a l.length;cond (i<il l) (ck b (ck b (ck c (ck c (ce m .bool true (ua d.1 d.2.1 e.1 e.2.1) (λr1=>cond (!r1) (K false) (fz m tInt (w64 (i+1)) (λg=>f l g)))))))) (K true)
def qU (m:Bool)(K:Bool→Option C)(f:bn C)(l:Υ):Option C:=f l 1
def ib:Nat→bn Bool:=lp (λ_ _=>none) λf=>eW false some f
def ju (l:Υ):Option Bool:=qU false some (ib FU) l
def Ey:Ent:=evE (.cons (.slice aa) .unit) ac (zero .bool) λx=>ju x.1
def Ez:Par:=⟨bE.tab,aF [(145,vK)],λ_=>look [],λ_=>look [(2,gu)]⟩
def EA:=h12 Ez f105
def kw (f n:Nat):bn AV:=λl i=>aT 0 gu (EA f 0 [1,0,1,0,0]) (am 0 (be 0 none (EA f 0 [1,1]) iD)) n ⟨mkE 34 [(0,.val (.slice aa) l),(3,.val tInt i)],mkH 0 []⟩
def Kh (f g:Nat):kw f (g+1)=eW true (sm ac) (kw f g):=Φ
def Ki:∀n,kw FU n=mp2 ac (ib n):=cM Φ λf _ h=>(Kh FU f).trans (by rw[h];funext _ _;simp only[eW,ss])
def QG:aj prog 105 (Ey):=evX func105 (S:=Ez) aB (af ⟨LF,anO⟩) (tys:=[.bool]) (λf x=>qU true (sm ac) (kw f f) x.1) (λx=>by show _=Option.map ac _;rw[Ki FU];simp only[qU,ju,ss])
abbrev jD (C:Type):=ah.den→tCommit.den→Int→Option C
def ml (m:Bool)(K:Int→Option C)(f:jD C):jD C:=λs c i=>cond (i<il c.2.2.2.2.1) (ck (bd i c.2.2.2.2.1.length) (cl m tInt (jC s c (ix aa c.2.2.2.2.1 i)) (λj=>cond (!j=0) (K j) (fz m tInt (w64 (i+1)) (λg=>f s c g))))) (K 0)
def vn (m:Bool)(K:Int→Option C)(f:jD C)(s:ah.den)(c:tCommit.den):Option C:=cl m .bool (lO c) λr1=>cond (!r1) (K 5) (cl m .bool (ju c.2.2.2.2.1) (λg=>cond (!g) (K 12) (f s c 0)))
def nR:Nat→jD Int:=lp (λ_ _ _=>none) λf=>ml false some f
def mn (s:ah.den)(c:tCommit.den):Option Int:=vn false some (nR FU) s c
def IC:Ent:=evE (.cons ah (.cons tCommit .unit)) av (zero tInt) λx=>mn x.1 x.2.1
def B0:MS:=⟨2,[(0,[.dat (.slice ag)]),(1,[.dat tInt,.dat (.slice tInt),.dat (.slice tInt),.dat .str,.dat (.slice aa)])],[(2,.keep),(3,.keep),(5,.dat tInt)]⟩
def ID:Par:=⟨bE.tab,aF [(104,H3),(105,Ey),(106,FH)],λ_=>look [],λ_=>look [(6,B0)]⟩
def AQ:KT:=bB bE.tab [.tmp 4] [tInt]
def IE:=h12 ID f56
def nQ (f n:Nat):jD AV:=λs c i=>aT 0 B0 (IE f 0 [1,1,1,0,1,0,0]) (am 0 (be 0 none (IE f 0 [1,1,1,1]) AQ)) n ⟨mkE 32 [(2,.box 0 0),(3,.box 1 0),(5,.val tInt i)],mkH 2 [(0,.box [.val (.slice ag) s.1]),(1,.box [.val tInt c.1,.val (.slice tInt) c.2.1,.val (.slice tInt) c.2.2.1,.val .str c.2.2.2.1,.val (.slice aa) c.2.2.2.2.1])]⟩
def Ov (f g:Nat):nQ f (g+1)=ml true (sm av) (nQ f g):=Φ
def Ow:∀n,nQ FU n=mp3 av (nR n):=cM Φ λf _ h=>(Ov FU f).trans (by rw[h];funext _ _ _;simp only[ml,ss])
def Wt:aj prog 56 (IC):=evX func56 (S:=ID) aB (af ⟨Vk,QG,RL,anO⟩) (tys:=[tInt]) (λf x=>vn true (sm av) (nQ f f) x.1 x.2.1) (λx=>by show _=Option.map av _;rw[Ow FU];simp only[vn,mn,ss])
abbrev ir:=(Ty.den (.cons tCommit (.cons .bool .unit)))
abbrev mo (C:Type):=Λ→Int→Int→Option C
def pW (m:Bool)(K:ir→Option C)(g:mo C):mo C:=λl f i=>let a:=bd i l.length;cond (i<il l) (ck a (cond ((ix tCommit l i).1=f) (ck a (K (ix tCommit l i,true,()))) (fz m tInt (w64 (i+1)) (λj=>g l f j)))) (K ((0,[],[],[],[],()),false,()))
def zE (m:Bool)(K:ir→Option C)(g:mo C)(l:Λ)(f:Int):Option C:=g l f 0
def ry:Nat→mo ir:=lp (λ_ _ _=>none) λf=>pW false some f
def kS (l:Λ)(f:Int):Option ir:=zE false some (ry FU) l f
def jF (r:ir):AV :=.tup (bh [.val tCommit r.1,.val .bool r.2.1])
def FP:Ent:=evE (.cons (.slice tCommit) (.cons tInt .unit)) jF (zero (.cons tCommit (.cons .bool .unit))) λx=>kS x.1 x.2.1
def FN:MS:=⟨1,[(0,[.dat tInt,.own tInt 3,.own tInt 3,.dat .str,.own aa 44])],[(0,.dat (.slice tCommit)),(1,.dat tInt),(4,.keep),(6,.dat tInt)]⟩
def OB:Par:=⟨bE.tab,aF [],λ_=>look [],λ_=>look [(2,FN)]⟩
def Z7:KT:=bB bE.tab [.cell 4 38,.tmp 5] [tCommit,.bool]
def OC:=h12 OB f45
def rx (f n:Nat):mo AV:=λl g i=>aT 0 FN (OC f 0 [1,0,1,0,0]) (am 0 (be 0 none (OC f 0 [1,1]) Z7)) n ⟨mkE 25 [(0,.val (.slice tCommit) l),(1,.val tInt g),(4,.box 0 0),(6,.val tInt i)],mkH 4 [(0,.box [.val tInt (0:Int),.own 1 0 tInt [],.own 2 0 tInt [],.val .str [],.own 3 0 aa []]),(1,.row tInt 3 0),(2,.row tInt 3 0),(3,.row aa 44 0)]⟩
def RN (f g:Nat):rx f (g+1)=pW true (sm jF) (rx f g):=Φ
def RO:∀n,rx FU n=mp3 jF (ry n):=cM Φ λf _ h=>(RN FU f).trans (by rw[h];funext _ _ _;simp only[pW,ss])
def OA:aj prog 45 (FP):=evX func45 (S:=OB) aB (af trivial) (tys:=[tCommit,.bool]) (λf x=>zE true (sm jF) (rx f f) x.1 x.2.1) (λx=>by show _=Option.map jF _;rw[RO FU];simp only[zE,kS,ss])
abbrev tX (C:Type):=Λ→(List Int)→Nat→(List Int)→Option C
def zZ (m:Bool)(K:(List Int)→Option C)(j:tX C):tX C:=λl out f g=>let b:=ni f-1;let c:=w64 b;let a:=List.getD g (0+Int.toNat c) (zero tInt);cond (ni f>0) (ck (0≤w64 b&&w64 b<ni f) (ck (0≤w64 b&&w64 b≤ni f) (cl m (.cons tCommit (.cons .bool .unit)) (kS l a) (λr1=>nm m 2 (!!r1.2.1) (BY out a) (nq m [0] (!!r1.2.1) (cond (cond (!r1.2.1) true (pR out a)) (fm m (0+Int.toNat c) (λp=>j l out p g)) (cl m (.slice tInt) (uM out a) (λJ=>ck (lm (0+Int.toNat c+List.length r1.1.2.1)) (fm m (0+Int.toNat c+List.length r1.1.2.1) (λp=>fz m (.slice tInt) (List.take (0+Int.toNat c) g++r1.1.2.1) λr=>j l J p r)))))))))) (K out)
def Ly (m:Bool)(K:(List Int)→Option C)(g:tX C)(l:Λ)(f:(List Int)):Option C:=ck (lm (0+List.length f)) (fm m (0+List.length f) (λp=>fz m (.slice tInt) (List.take 0 []++f) λj=>g l [] p j))
def zY:Nat→tX (List Int):=lp (λ_ _ _ _=>none) λf=>zZ false some f
def oa (l:Λ)(f:(List Int)):Option (List Int):=Ly false some (zY FU) l f
def Lz:Ent:=evE (.cons (.slice tCommit) (.cons (.slice tInt) .unit)) ay (zero (.slice tInt)) λx=>oa x.1 x.2.1
def Ps:MS:=⟨0,[],[(0,.dat (.slice tCommit)),(5,.dat (.slice tInt)),(6,.mut tInt 3)]⟩
def abB:Par:=⟨Mp.tab,aF [(45,FP),(17,xq),(19,QA)],λ_=>look [],λ_=>look [(3,Ps)]⟩
def ahl:KT:=bB Mp.tab [.tmp 4] [(.slice tInt)]
def abC:=h12 abB f93
def zX (g n:Nat):tX AV:=λl out f j=>aT 0 Ps (abC g 0 [1,1,1,0,0,0]) (am 0 (be 0 none (abC g 0 [1,1,1,1]) ahl)) n ⟨mkE 48 [(0,.val (.slice tCommit) l),(5,.val (.slice tInt) out),(6,.msl 0 0 0 f)],mkH 1 [(0,.mrow tInt 3 0 j)]⟩
def abz (f g:Nat):zX f (g+1)=zZ true (sm ay) (zX f g):=Φ
def abA:∀n,zX FU n=mp4 ay (zY n):=cM Φ λf _ h=>(abz FU f).trans (by rw[h];funext _ _ _ _;simp only[zZ,ss])
def Si:aj prog 93 (Lz):=evX func93 (S:=abB) Mo (af ⟨OA,AO,Yz,anO⟩) (tys:=[(.slice tInt)]) (λf x=>Ly true (sm ay) (zX f f) x.1 x.2.1) (λx=>by show _=Option.map ay _;rw[abA FU];simp only[Ly,oa,ss])
def ah4 (g:Λ)(f:(List Int)):Bool:=(oa g f).isSome
def afg (g:Λ)(f:(List Int)):(List Int):=(oa g f).getD (zero (.slice tInt))
def vG (m:Bool)(K:Bool→Option C)(l:Λ)(a:Int)(b:Int):Option C:=let d:=afg l [b];let c:Bool:=!a=b;nq m [1] c (nm m 2 c (ah4 l [b]) (nm m 2 c (BY d a) (nq m [1] c (K (cond c (pR d a) false)))))
def mH (l:Λ)(a:Int)(b:Int):Option Bool:=vG false some l a b
def Ja:Ent:=evE (.cons (.slice tCommit) (.cons tInt (.cons tInt .unit))) ac (zero .bool) λx=>mH x.1 x.2.1 x.2.2.1
def WY:Par:=⟨bE.tab,aF [(93,Lz),(17,xq)],λ_=>look [],λ_=>look []⟩
def WX:aj prog 91 (Ja):=evX func91 (S:=WY) aB (af ⟨Si,AO,anO⟩) (tys:=[.bool]) (λf x=>vG true (sm ac) x.1 x.2.1 x.2.2.1) (λx=>by show _=Option.map ac _;simp only[vG,mH,ss])
abbrev b7 (C:Type):=Λ→(List Int)→(List Int)→Int→Option C
abbrev kI (C:Type):=Λ→(List Int)→(List Int)→Int→Bool→Int→Option C
abbrev UG (C:Type):=Λ→(List Int)→(List Int)→Int→Int→Bool→Option C
abbrev UH (C:Type):=Λ→(List Int)→Int→(List Int)→Option C
def sr (m:Bool)(K:(List Int)→Option C)(g:kI C):b7 C:=λl f out i=>cond (i<il f) (ck (bd i f.length) (cl m (.cons tCommit (.cons .bool .unit)) (kS l (ix tInt f i)) (λr1=>g l f out i r1.2.1 0))) (K out)
def o7 (m:Bool)(K:(List Int)→Option C)(g:kI C):UG C:=λl f out i p ok=>fz m tInt (w64 (p+1)) λj=>g l f out i ok j
def pa (m:Bool)(K:(List Int)→Option C)(g:b7 C):UH C:=λl f i out=>fz m tInt (w64 (i+1)) λj=>g l f out j
def sq (m:Bool)(K:(List Int)→Option C)(g:kI C)(j:b7 C):kI C:=λl f out i ok p=>let b:=ix tInt f i;let a:=bd i f.length;nq m [2,3,1] ok (cond (cond ok (p<il f) false) (ck a (ck (bd p f.length) (cl m .bool (mH l b (ix tInt f p)) (λJ=>cond J (o7 m K g l f out i p false) (o7 m K g l f out i p ok))))) (cond ok (ck a (cl m (.slice tInt) (uM out b) (λr=>pa m K j l f i r))) (pa m K j l f i out)))
def Ct (m:Bool)(K:(List Int)→Option C)(g:b7 C)(l:Λ)(f:(List Int)):Option C:=g l f [] 0
def oY (g:b7 (List Int)):Nat→kI (List Int):=lp (λ_ _ _ _ _ _=>none) λf=>sq false some f g
def uv:Nat→b7 (List Int):=lp (λ_ _ _ _=>none) λf=>sr false some (oY f FU)
def su (l:Λ)(f:(List Int)):Option (List Int):=Ct false some (uv FU) l f
def SA:Ent:=evE (.cons (.slice tCommit) (.cons (.slice tInt) .unit)) ay (zero (.slice tInt)) λx=>su x.1 x.2.1
def oX:MS:=⟨0,[],[(0,.dat (.slice tCommit)),(1,.dat (.slice tInt)),(5,.dat (.slice tInt)),(6,.dat tInt)]⟩
def Aj:MS:=⟨0,[],[(0,.dat (.slice tCommit)),(1,.dat (.slice tInt)),(5,.dat (.slice tInt)),(6,.dat tInt),(8,.dat .bool),(9,.dat tInt)]⟩
def SB:Par:=⟨bE.tab,aF [(45,FP),(91,Ja),(19,QA)],λ_=>look [(8,Aj),(4,oX)],λ_=>look [(3,oX),(7,Aj)]⟩
def qz:=h12 SB f52
def oZ (g n:Nat):b7 AV:=λl f out i=>aT 0 oX (qz g 0 [1,1,0,1,0,0]) (am 0 (be 0 none (qz g 0 [1,1,1]) vF)) n ⟨mkE 52 [(0,.val (.slice tCommit) l),(1,.val (.slice tInt) f),(5,.val (.slice tInt) out),(6,.val tInt i)],mkH 0 []⟩
def uu (f p n:Nat):kI AV:=λl g out i ok j=>aT 0 Aj (qz f 0 [1,1,0,1,0,0,1,0,0,1,0,1,0,0]) (am 2 (be 0 none (qz f 0 [1,1,0,1,0,0,1,0,0,1,1]) (am 1 (be 0 (some oX) (qz f 0 [1,1,0,1,0,0,1,1]) (kLp 0 oX (qz f 0 [1,1,0,1,0,0]) (am 0 (be 0 none (qz f 0 [1,1,1]) vF)) p))))) n ⟨mkE 52 [(0,.val (.slice tCommit) l),(1,.val (.slice tInt) g),(5,.val (.slice tInt) out),(6,.val tInt i),(8,.val .bool ok),(9,.val tInt j)],mkH 0 []⟩
def UK (f g:Nat):oZ f (g+1)=sr true (sm ay) (uu f g f):=Φ
def UI (f g j:Nat):uu f g (j+1)=sq true (sm ay) (uu f g j) (oZ f g):=Φ
def UJ (j:Nat){f:b7 (List Int)}(g:oZ FU j=mp4 ay f):∀n,uu FU j n=mp6 ay (oY f n):=cM Φ λl _ h=>(UI FU j l).trans (by rw[h,g];funext _ _ _ _ _ _;simp only[sq,pa,o7,ss])
def UL:∀n,oZ FU n=mp4 ay (uv n):=cM Φ λf _ h=>(UK FU f).trans (by rw[UJ f h FU];funext _ _ _ _;simp only[sr,pa,o7,ss])
def abY:aj prog 52 (SA):=evX func52 (S:=SB) aB (af ⟨OA,WX,Yz,anO⟩) (tys:=[(.slice tInt)]) (λf x=>Ct true (sm ay) (oZ f f) x.1 x.2.1) (λx=>by show _=Option.map ay _;rw[UL FU];simp only[Ct,su,pa,o7,ss])
abbrev dF (C:Type):=Λ→(List Int)→Int→Option C
abbrev l7 (C:Type):=Λ→(List Int)→Int→Bool→Int→Option C
abbrev RB (C:Type):=Λ→Int→(List Int)→Option C
def pP (m:Bool)(K:(List Int)→Option C)(f:l7 C):dF C:=λl out i=>cond (i<il l) (f l out i true 0) (K out)
def kR (m:Bool)(K:(List Int)→Option C)(f:dF C):RB C:=λl i out=>fz m tInt (w64 (i+1)) λg=>f l out g
def pO (m:Bool)(K:(List Int)→Option C)(g:l7 C)(f:dF C):l7 C:=λl out i head j=>let c:=bd i l.length;let b:=ix tCommit l j;let a:=ix tCommit l i;cond (j<il l) (nm m 2 head (bd j l.length) (nq m [2,2] head (nm m 2 head c (nq m [2,2] head (nm m 2 head (BY b.2.1 a.1) (nq m [2,1] head (fz m .bool (cond head (!pR b.2.1 a.1) false) (λr=>fz m tInt (w64 (j+1)) λp=>g l out i r p)))))))) (cond head (ck c (ck (lm (List.length out+List.length ([a.1]:List Int))) (fz m (.slice tInt) (out++[a.1]) (λJ=>kR m K f l i J)))) (kR m K f l i out))
def zo (m:Bool)(K:(List Int)→Option C)(f:dF C)(l:Λ):Option C:=f l [] 0
def mc (g:dF (List Int)):Nat→l7 (List Int):=lp (λ_ _ _ _ _=>none) λf=>pO false some f g
def rm:Nat→dF (List Int):=lp (λ_ _ _=>none) λf=>pP false some (mc f FU)
def pQ (l:Λ):Option (List Int):=zo false some (rm FU) l
def Of:Ent:=evE (.cons (.slice tCommit) .unit) ay (zero (.slice tInt)) λx=>pQ x.1
def ma:MS:=⟨0,[],[(0,.dat (.slice tCommit)),(3,.own tInt 3),(4,.dat tInt)]⟩
def FD:MS:=⟨0,[],[(0,.dat (.slice tCommit)),(3,.own tInt 3),(4,.dat tInt),(5,.dat .bool),(6,.dat tInt)]⟩
def Oh:Par:=⟨bE.tab,aF [(17,xq)],λ_=>look [(4,ma)],λ_=>look [(3,ma),(7,FD)]⟩
def mg:=h12 Oh f151
def mf (f n:Nat):dF AV:=λl out i=>aT 0 ma (mg f 0 [1,1,0,1,0,0]) (am 0 (be 0 none (mg f 0 [1,1,1]) KR)) n ⟨mkE 44 [(0,.val (.slice tCommit) l),(3,.own 0 0 tInt out),(4,.val tInt i)],mkH 1 [(0,.row tInt 3 0)]⟩
def rl (f j n:Nat):l7 AV:=λl out i head g=>aT 0 FD (mg f 0 [1,1,0,1,0,0,1,0,0,1,0,1,0,0]) (am 2 (be 0 none (mg f 0 [1,1,0,1,0,0,1,0,0,1,1]) (am 1 (be 0 (some ma) (mg f 0 [1,1,0,1,0,0,1,1]) (kLp 0 ma (mg f 0 [1,1,0,1,0,0]) (am 0 (be 0 none (mg f 0 [1,1,1]) KR)) j))))) n ⟨mkE 44 [(0,.val (.slice tCommit) l),(3,.own 0 0 tInt out),(4,.val tInt i),(5,.val .bool head),(6,.val tInt g)],mkH 1 [(0,.row tInt 3 0)]⟩
def RG (f g:Nat):mf f (g+1)=pP true (sm ay) (rl f g f):=Φ
def RD (f g j:Nat):rl f g (j+1)=pO true (sm ay) (rl f g j) (mf f g):=Φ
def RE (j:Nat){f:dF (List Int)}(g:mf FU j=mp3 ay f):∀n,rl FU j n=mp5 ay (mc f n):=cM Φ λl _ h=>(RD FU j l).trans (by rw[h,g];funext _ _ _ _ _;simp only[pO,kR,ss])
def RH:∀n,mf FU n=mp3 ay (rm n):=cM Φ λf _ h=>(RG FU f).trans (by rw[RE f h FU];funext _ _ _;simp only[pP,kR,ss])
def ZK:aj prog 151 (Of):=evX func151 (S:=Oh) aB (af ⟨AO,anO⟩) (tys:=[(.slice tInt)]) (λf x=>zo true (sm ay) (mf f f) x.1) (λx=>by show _=Option.map ay _;rw[RH FU];simp only[zo,pQ,kR,ss])
def mQ (m:Bool)(K:Bool→Option C)(c:tCommit.den)(id:Int)(field:Int):Option C:=cl m (.cons aO (.cons .bool .unit)) (eG c.2.2.2.2.1 id field) λr1=>K r1.2.1
def ff (c:tCommit.den)(id:Int)(field:Int):Option Bool:=mQ false some c id field
def Bl:Ent:=evE (.cons tCommit (.cons tInt (.cons tInt .unit))) ac (zero .bool) λx=>ff x.1 x.2.1 x.2.2.1
def LN:Par:=⟨bE.tab,aF [(64,p9)],λ_=>look [],λ_=>look []⟩
def LM:aj prog 140 (Bl):=evX func140 (S:=LN) aB (af ⟨wL,anO⟩) (tys:=[.bool]) (λf x=>mQ true (sm ac) x.1 x.2.1 x.2.2.1) (λx=>by show _=Option.map ac _;simp only[mQ,ff,ss])
abbrev gz (C:Type):=Λ→(List Int)→Λ→(List (List Int))→Int→Option C
abbrev M1 (C:Type):=Λ→(List Int)→Int→Λ→(List (List Int))→Option C
abbrev bF (C:Type):=Λ→(List (List Int))→Int→(List ag.den)→Option C
abbrev bU (C:Type):=Λ→(List (List Int))→Int→Int→(List ag.den)→Option C
abbrev gX (C:Type):=Λ→(List (List Int))→Int→Int→(List ag.den)→Bool→Int→Option C
def eV (m:Bool)(K:ah.den→Option C)(j:gz C):M1 C:=λl r i f g=>fz m tInt (w64 (i+1)) λp=>j l r f g p
def lL (m:Bool)(K:ah.den→Option C)(j:gz C)(J:bF C):gz C:=λl p f g i=>let b:=ix tCommit l i;let a:=bd i l.length;cond (i<il l) (ck a (cl m .bool (nP p b.1) (λr1=>cond r1 (ck a (ck (lm (List.length f+List.length ([ix tCommit l i]:List tCommit.den))) (ck a (cl m (.slice tInt) (oa l [b.1]) (λR=>ck (lm (List.length g+List.length ([R]:List (List Int)))) (fz m (.slice tCommit) (f++[ix tCommit l i]) (λP=>fz m (.slice (.slice tInt)) (g++[R]) λr=>eV m K j l p i P r))))))) (eV m K j l p i f g)))) (J f g 0 [])
def jq (m:Bool)(K:ah.den→Option C)(j:bU C):bF C:=λf l i g=>cond (i<il f) (j f l i 0 g) (K (g,()))
def jp (m:Bool)(K:ah.den→Option C)(p:gX C)(J:bF C):bU C:=λf g i l j=>let b:=bd i f.length;let a:=ix tCommit f i;ck b (cond (l<il a.2.2.2.2.1) (ck b (ck (bd l a.2.2.2.2.1.length) (p f g i l j true 0))) (fz m tInt (w64 (i+1)) (λr=>J f g r j)))
def du (m:Bool)(K:ah.den→Option C)(g:bU C):bU C:=λf j i r l=>fz m tInt (w64 (r+1)) λp=>g f j i p l
def Da (j:tCommit.den)(g:Int)(f:Int):Bool:=(ff j g f).isSome
def eI (j:tCommit.den)(g:Int)(f:Int):Bool:=(ff j g f).getD (zero .bool)
def jo (m:Bool)(K:ah.den→Option C)(T:gX C)(J:bU C):gX C:=λl p i R r P j=>let h:Bool:=!j=i;let f:=bd i l.length;let e:=ix (.slice tInt) p j;let d:=ix tCommit l j;let c:=ix tCommit l i;let a:=ix aa c.2.2.2.2.1 R;let g:Bool:=!eI d a.1 a.2.1;let b:Bool:=!cond (j=i) true g;nq m [1] (j<il l) (cond (cond (j<il l) P false) (nm m 2 h (bd j l.length) (nq m [2,2,2] h (nm m 3 h (Da d a.1 a.2.1) (nq m [2,0] h (nm m 2 b (bd j p.length) (nq m [2] b (nm m 2 b f (nq m [2,2] b (nm m 2 b (BY e c.1) (nq m [2,0] b (fz m .bool (cond (cond (j=i) true g) true (!pR e c.1)) (λy5_=>fz m tInt (w64 (j+1)) λy6_=>T l p i R r y5_ y6_)))))))))))) (cond P (ce m (.slice eL) (cj (r,()) a.1 a.2.1) (iy (r,()) a.1 a.2.1) (λU=>ck (lm (List.length ([]:List eL.den)+List.length U)) (ck f (ck (lm (List.length ([]++U)+List.length ([(c.1,a.2.2.1,())]:List eL.den))) (ce m ah (acj (r,()) a.1 a.2.1 ([]++U++[(c.1,a.2.2.1,())])) (ot (r,()) a.1 a.2.1 ([]++U++[(c.1,a.2.2.1,())])) (λr4=>du m K J l p i R r4.1)))))) (du m K J l p i R r)))
def uJ (m:Bool)(K:ah.den→Option C)(f:gz C)(l:Λ)(g:(List Int)):Option C:=f l g [] [] 0
def gZ (J:bF ah.den)(g:bU ah.den):Nat→gX ah.den:=lp (λ_ _ _ _ _ _ _=>none) λf=>jo false some f g
def g8 (J:bF ah.den):Nat→bU ah.den:=lp (λ_ _ _ _ _=>none) λf=>jp false some (gZ J f FU) J
def g9:Nat→bF ah.den:=lp (λ_ _ _ _=>none) λJ=>jq false some (g8 J FU)
def jn:Nat→gz ah.den:=lp (λ_ _ _ _ _=>none) λf=>lL false some f (g9 FU)
def lM (l:Λ)(f:(List Int)):Option ah.den:=uJ false some (jn FU) l f
def bk (r:ah.den):AV :=.val ah r
def HS:Ent:=evE (.cons (.slice tCommit) (.cons (.slice tInt) .unit)) bk (zero ah) λx=>lM x.1 x.2.1
def sO:MS:=⟨1,[(0,[.dat (.slice ag)])],[(0,.dat (.slice tCommit)),(1,.dat (.slice tInt)),(4,.keep),(5,.own tCommit 38),(6,.own (.slice tInt) 23),(7,.dat tInt)]⟩
def km:MS:=⟨8,[(0,[.dat (.slice ag)]),(7,[.dat (.slice ag)])],[(4,.keep),(5,.own tCommit 38),(6,.own (.slice tInt) 23),(8,.keep),(9,.dat tInt)]⟩
def gY:MS:=⟨8,[(0,[.dat (.slice ag)]),(7,[.dat (.slice ag)])],[(4,.keep),(5,.own tCommit 38),(6,.own (.slice tInt) 23),(8,.keep),(9,.dat tInt),(10,.dat tInt)]⟩
def yl:MS:=⟨27,[(0,[.dat (.slice ag)]),(7,[.dat (.slice ag)]),(26,[.dat tInt,.dat tInt,.dat tInt,.dat .bool,.dat .str,.dat tInt])],[(4,.keep),(5,.own tCommit 38),(6,.own (.slice tInt) 23),(8,.keep),(9,.dat tInt),(10,.dat tInt),(11,.keep),(12,.dat .bool),(13,.dat tInt)]⟩
def HT:Par:=⟨bE.tab,aF [(17,xq),(93,Lz),(140,Bl),(141,C2),(142,Qj)],λ_=>look [(5,sO),(15,gY)],λ_=>look [(4,sO),(11,km),(14,gY),(19,yl)]⟩
def uK:KT:=bB bE.tab [.cell 4 96] [ah]
def bS:=h12 HT f92
def nx (f n:Nat):gz AV:=λl p g j i=>aT 0 sO (bS f 0 [1,1,1,0,1,0,0]) (am 0 (be 0 none (bS f 0 [1,1,1,1]) uK)) n ⟨mkE 134 [(0,.val (.slice tCommit) l),(1,.val (.slice tInt) p),(4,.box 0 0),(5,.own 1 0 tCommit g),(6,.own 2 0 (.slice tInt) j),(7,.val tInt i)],mkH 3 [(0,.box [.val (.slice ag) []]),(1,.row tCommit 38 0),(2,.row (.slice tInt) 23 0)]⟩
def fp (f n:Nat):bF AV:=λg j i l=>aT 0 km (bS f 0 [1,1,1,1,1,0,1,0,0]) (am 2 (be 0 none (bS f 0 [1,1,1,1,1,1]) uK)) n ⟨mkE 134 [(4,.box 0 0),(5,.own 8 0 tCommit g),(6,.own 9 0 (.slice tInt) j),(8,.box 7 0),(9,.val tInt i)],mkH 10 [(0,.box [.val (.slice ag) []]),(1,.row tCommit 38 1),(2,.row (.slice tInt) 23 1),(7,.box [.val (.slice ag) l]),(8,.row tCommit 38 0),(9,.row (.slice tInt) 23 0)]⟩
def g7 (f r n:Nat):bU AV:=λg j i p l=>aT 0 gY (bS f 0 [1,1,1,1,1,0,1,0,0,1,0,0,1,0,0]) (am 4 (am 3 (be 0 none (bS f 0 [1,1,1,1,1,0,1,0,0,1,1]) (kLp 0 km (bS f 0 [1,1,1,1,1,0,1,0,0]) (am 2 (be 0 none (bS f 0 [1,1,1,1,1,1]) uK)) r)))) n ⟨mkE 134 [(4,.box 0 0),(5,.own 8 0 tCommit g),(6,.own 9 0 (.slice tInt) j),(8,.box 7 0),(9,.val tInt i),(10,.val tInt p)],mkH 10 [(0,.box [.val (.slice ag) []]),(1,.row tCommit 38 1),(2,.row (.slice tInt) 23 1),(7,.box [.val (.slice ag) l]),(8,.row tCommit 38 0),(9,.row (.slice tInt) 23 0)]⟩
def kn (f P J n:Nat):gX AV:=λg p i r C l j=>let a:=ix aa (ix tCommit g i).2.2.2.2.1 r;aT 0 yl (bS f 0 [1,1,1,1,1,0,1,0,0,1,0,0,1,0,0,1,0,0,1,1,0,1,0,0]) (am 6 (be 0 none (bS f 0 [1,1,1,1,1,0,1,0,0,1,0,0,1,0,0,1,0,0,1,1,1]) (am 5 (be 0 (some gY) (bS f 0 [1,1,1,1,1,0,1,0,0,1,0,0,1,0,0,1,1]) (kLp 0 gY (bS f 0 [1,1,1,1,1,0,1,0,0,1,0,0,1,0,0]) (am 4 (am 3 (be 0 none (bS f 0 [1,1,1,1,1,0,1,0,0,1,1]) (kLp 0 km (bS f 0 [1,1,1,1,1,0,1,0,0]) (am 2 (be 0 none (bS f 0 [1,1,1,1,1,1]) uK)) P)))) J))))) n ⟨mkE 134 [(4,.box 0 0),(5,.own 27 0 tCommit g),(6,.own 28 0 (.slice tInt) p),(8,.box 7 0),(9,.val tInt i),(10,.val tInt r),(11,.box 26 0),(12,.val .bool l),(13,.val tInt j)],mkH 29 [(0,.box [.val (.slice ag) []]),(1,.row tCommit 38 1),(2,.row (.slice tInt) 23 1),(7,.box [.val (.slice ag) C]),(8,.row tCommit 38 1),(9,.row (.slice tInt) 23 1),(26,.box [.val tInt a.1,.val tInt a.2.1,.val tInt a.2.2.1.1,.val .bool a.2.2.1.2.1,.val .str a.2.2.1.2.2.1,.val tInt a.2.2.1.2.2.2.1]),(27,.row tCommit 38 0),(28,.row (.slice tInt) 23 0)]⟩
def M2 (f g:Nat):nx f (g+1)=lL true (sm bk) (nx f g) (fp f f):=Φ
def JX (f g:Nat):fp f (g+1)=jq true (sm bk) (g7 f g f):=Φ
def JV (f g j:Nat):g7 f g (j+1)=jp true (sm bk) (kn f g j f) (fp f g):=Φ
def JT (f j g l:Nat):kn f j g (l+1)=jo true (sm bk) (kn f j g l) (g7 f j g):=Φ
variable{J:bF ah.den}
def JU (g j:Nat)(r:fp FU g=mp4 bk J){f:bU ah.den}(l:g7 FU g j=mp5 bk f):∀n,kn FU g j n=mp7 bk (gZ J f n):=cM Φ λp _ h=>(JT FU g j p).trans (by rw[h,l];funext _ _ _ _ _ _ _;simp only[jo,du,eV,ss])
def JW (g:Nat)(f:fp FU g=mp4 bk J):∀n,g7 FU g n=mp5 bk (g8 J n):=cM Φ λj _ h=>(JV FU g j).trans (by rw[JU g j f h FU,f];funext _ _ _ _ _;simp only[jp,du,eV,ss])
def JY:∀n,fp FU n=mp4 bk (g9 n):=cM Φ λf _ h=>(JX FU f).trans (by rw[JW f h FU];funext _ _ _ _;simp only[jq,du,eV,ss])
def M3:∀n,nx FU n=mp5 bk (jn n):=cM Φ λf _ h=>(M2 FU f).trans (by rw[h,JY FU];funext _ _ _ _ _;simp only[lL,du,eV,ss])
def Vd:aj prog 92 (HS):=evX func92 (S:=HT) aB (af ⟨AO,Si,LM,LA,afF,anO⟩) (tys:=[ah]) (λf x=>uJ true (sm bk) (nx f f) x.1 x.2.1) (λx=>by show _=Option.map bk _;rw[M3 FU];simp only[uJ,lM,du,eV,ss])
def C1 (m:Bool)(K:ah.den→Option C)(l:Λ)(f:(List Int)):Option C:=cl m (.slice tInt) (oa l f) λr1=>cl m ah (lM l r1) λg=>K g
def pZ (l:Λ)(f:(List Int)):Option ah.den:=C1 false some l f
def Lv:Ent:=evE (.cons (.slice tCommit) (.cons (.slice tInt) .unit)) bk (zero ah) λx=>pZ x.1 x.2.1
def aeE:Par:=⟨bE.tab,aF [(93,Lz),(92,HS)],λ_=>look [],λ_=>look []⟩
def T6:aj prog 53 (Lv):=evX func53 (S:=aeE) aB (af ⟨Si,Vd,anO⟩) (tys:=[ah]) (λf x=>C1 true (sm bk) x.1 x.2.1) (λx=>by show _=Option.map bk _;simp only[C1,pZ,ss])
def Cr (m:Bool)(K:Str→Option C)(f:Int)(x:Int):Option C:=let a:=cond (f=1) true (f=3);nq m [2,0] (!f=1) (cl m tInt (mod2_ev x 5) (λr1=>cond (r1=0) (cond a (K [77]) (K [102])) (cond (r1=1) (cond a (K [78]) (K [103])) (cond (r1=2) (cond a (K [84]) (K [120])) (cond (r1=3) (cond a (K [65,98,49]) (K [121])) (cond a (K [81]) (K [107,95,50])))))))
def jc (f:Int)(x:Int):Option Str:=Cr false some f x
def j4 (r:Str):AV :=.val .str r
def Jv:Ent:=evE (.cons tInt (.cons tInt .unit)) j4 (zero .str) λx=>jc x.1 x.2.1
def Cs:Par:=⟨bE.tab,aF [(18,xh)],λ_=>look [],λ_=>look []⟩
def Ss:aj prog 96 (Jv):=evX func96 (S:=Cs) aB (af ⟨mod2_x,anO⟩) (tys:=[.str]) (λf x=>Cr true (sm j4) x.1 x.2.1) (λx=>by show _=Option.map j4 _;simp only[Cr,jc,ss])
def ut (m:Bool)(K:Str→Option C)(x:Int):Option C:=cl m tInt (mod2_ev x 5) λr1=>cond (r1=0) (K [32]) (cond (r1=1) (K [10]) (cond (r1=2) (K [32,35,32,110,111,116,101,10]) (cond (r1=3) (K []) (K [9,32,32]))))
def ly (x:Int):Option Str:=ut false some x
def HD:Ent:=evE (.cons tInt .unit) j4 (zero .str) λx=>ly x.1
def UD:aj prog 99 (HD):=evX func99 (S:=Cs) aB (af ⟨mod2_x,anO⟩) (tys:=[.str]) (λf x=>ut true (sm j4) x.1) (λx=>by show _=Option.map j4 _;simp only[ut,ly,ss])
def KK (m:Bool)(K:Str→Option C)(x:Int):Option C:=cl m tInt (mod2_ev x 26) λr1=>ck (!(26:Int)=0) (cl m tInt (mod2_ev (w64 (Int.tdiv x 26)) 25) (λf=>K (List.map (λn : Int=>UInt8.ofNat n.toNat) [IntKind.wrap .u8 (w64 ((97:Int)+r1)),IntKind.wrap .u8 (w64 ((98:Int)+f))])))
def ra (x:Int):Option Str:=KK false some x
def Zo:Ent:=evE (.cons tInt .unit) j4 (zero .str) λx=>ra x.1
def ago:aj prog 100 (Zo):=evX func100 (S:=Cs) aB (af ⟨mod2_x,anO⟩) (tys:=[.str]) (λf x=>KK true (sm j4) x.1) (λx=>by show _=Option.map j4 _;simp only[KK,ra,ss])
abbrev dY (C:Type):=Int→ah.den→(List Int)→Int→Option C
abbrev G5 (C:Type):=Int→Int→ah.den→(List Int)→Option C
def fx (m:Bool)(K:(List Int)→Option C)(g:dY C):G5 C:=λf i s out=>fz m tInt (w64 (i+1)) λj=>g f s out j
def agm (g:ah.den)(f:Int):Bool:=(fQ g f).isSome
def agn (g:ah.den)(f:Int):Int:=(fQ g f).getD (zero tInt)
def dH (m:Bool)(K:(List Int)→Option C)(g:dY C):dY C:=λf s out i=>let b:=bd i s.1.length;let a:=ix ag s.1 i;cond (i<il s.1) (ck b (nq m [2,2] (a.2.1=1) (nq m [2] (a.2.1=1&&!f=0) (nm m 2 (a.2.1=1&&!f=0) b (nq m [2,2] (a.2.1=1&&!f=0) (nm m 2 (a.2.1=1&&!f=0) (agm s a.1) (nq m [3] (a.2.1=1&&!f=0) (nm m 0 (a.2.1=1) (ii (a.2.1=1&&!f=0)) (nq m [1] (a.2.1=1) (cond (cond (a.2.1=1) (cond (f=0) true (agn s a.1=f)) false) (ck b (ck (lm (List.length out+List.length ([a.1]:List Int))) (fz m (.slice tInt) (out++[a.1]) (λj=>fx m K g f i s j)))) (fx m K g f i s out))))))))))) (K out)
def jG (m:Bool)(K:(List Int)→Option C)(g:dY C)(s:ah.den)(f:Int):Option C:=g f s [] 0
def dZ:Nat→dY (List Int):=lp (λ_ _ _ _=>none) λf=>dH false some f
def aE (s:ah.den)(f:Int):Option (List Int):=jG false some (dZ FU) s f
def jH:Nw:=nwE tInt (.cons ah (.cons tInt .unit)) 3 λx=>aE x.1 x.2.1
def oH:MS:=⟨1,[(0,[.dat (.slice ag)])],[(1,.dat tInt),(2,.keep),(5,.own tInt 3),(6,.dat tInt)]⟩
def Cd:Par:=⟨bE.tab,aF [(95,zb)],λ_=>look [(4,oH)],λ_=>look [(3,oH)]⟩
def OJ:KT:=Yr bE.tab [.tmp 4] tInt 3
def Ce:=h12 Cd f59
def i7 (f n:Nat):dY AV:=λg s out i=>aT 0 oH (Ce f 0 [1,1,0,1,0,0]) (am 0 (be 0 none (Ce f 0 [1,1,1]) OJ)) n ⟨mkE 47 [(1,.val tInt g),(2,.box 0 0),(5,.own 1 0 tInt out),(6,.val tInt i)],mkH 2 [(0,.box [.val (.slice ag) s.1]),(1,.row tInt 3 0)]⟩
def G7 (f g:Nat):i7 f (g+1)=dH true (sm ay) (i7 f g):=Φ
def G8:∀n,i7 FU n=mp4 ay (dZ n):=cM Φ λf _ h=>(G7 FU f).trans (by rw[h];funext _ _ _ _;simp only[dH,fx,ss])
def nT:Sn prog 59 (jH):=nwX func59 (S:=Cd) aB (af ⟨CM,anO⟩) (λf x=>jG true (sm ay) (i7 f f) x.1 x.2.1) (λx=>by show _=Option.map ay _;rw[G8 FU];simp only[jG,aE,fx,ss])
def CC (m:Bool)(K:Int→Option C)(l:(List Int))(x:Int):Option C:=cond (il l=0) (K 0) (cl m tInt (mod2_ev x (il l)) (λr1=>ck (bd r1 l.length) (K (ix tInt l r1))))
def ba (l:(List Int))(x:Int):Option Int:=CC false some l x
def yE:Ent:=evE (.cons (.slice tInt) (.cons tInt .unit)) av (zero tInt) λx=>ba x.1 x.2.1
def CB:aj prog 60 (yE):=evX func60 (S:=Cs) aB (af ⟨mod2_x,anO⟩) (tys:=[tInt]) (λf x=>CC true (sm av) x.1 x.2.1) (λx=>by show _=Option.map av _;simp only[CC,ba,ss])
def CA (m:Bool)(K:aO.den→Option C)(s:ah.den)(id:Int)(field:Int):Option C:=ce m (.slice eL) (cj s id field) (iy s id field) λr1=>cond (il r1=0) (K (0,false,[],0,())) (ck (bd 0 r1.length) (K (ix eL r1 0).2.1))
def fM (s:ah.den)(id:Int)(field:Int):Option aO.den:=CA false some s id field
def SV:Ent:=evE (.cons ah (.cons tInt (.cons tInt .unit))) cR (zero aO) λx=>fM x.1 x.2.1 x.2.2.1
def acp:aj prog 98 (SV):=evX func98 (S:=To) aB (af ⟨LA,anO⟩) (tys:=[aO]) (λf x=>CA true (sm cR) x.1 x.2.1 x.2.2.1) (λx=>by show _=Option.map cR _;simp only[CA,fM,ss])
def uD (m:Bool)(K:aO.den→Option C)(v:aO.den)(s:ah.den)(x:Int):Option C:=let b:=w64 (Int.tdiv x 4);let a:=w64 (Int.tdiv x 6);nq m [2,2,1] (v.1≥5) (cond (cond (v.1≥5) (v.1≤9) false) (cl m tInt (mod2_ev x 4) (λr1=>cond (r1=0) (K (5,false,[],0,())) (cond (r1=1) (K (6,false,[],0,())) (cond (r1=2) (ck (!(4:Int)=0) (cl m .str (jc 3 b) (λJ=>K (9,false,J,0,())))) (cl m (.slice tInt) (aE s 3) (λr=>ck (!(4:Int)=0) (cl m tInt (ba r b) (λj=>cond (!j=0) (K (9,false,[],j,())) (K (7,false,[],0,())))))))))) (cond (v.1=21) (cl m tInt (mod2_ev x 2) (λp=>cond (p=0) (K (21,false,[42],0,())) (K (21,false,[60],0,())))) (cond (v.1=20) (cl m .str (jc 2 x) (λl=>K (20,false,l,0,()))) (cl m tInt (mod2_ev x 6) (λf=>cond (f=0) (K (10,false,[51],0,())) (cond (f=1) (K (11,false,[34,115,34],0,())) (cond (f=2) (cl m (.slice tInt) (aE s 4) (λr8=>ck (!(6:Int)=0) (cl m tInt (ba r8 a) (λr9=>cond (!r9=0) (K (12,false,[],r9,())) (K (12,false,[122],0,())))))) (cond (f=3) (cl m (.slice tInt) (aE s 2) (λr10=>ck (!(6:Int)=0) (cl m tInt (ba r10 a) (λr11=>cond (!r11=0) (ck (!(6:Int)=0) (cl m tInt (mod2_ev a 3) (λg=>K (16,decide (g=0),[],r11,())))) (K (16,false,[77,46,102],0,())))))) (cond (f=4) (K (10,false,[49,50],0,())) (K (13,false,[],0,())))))))))))
def eQ (v:aO.den)(s:ah.den)(x:Int):Option aO.den:=uD false some v s x
def HJ:Ent:=evE (.cons aO (.cons ah (.cons tInt .unit))) cR (zero aO) λx=>eQ x.1 x.2.1 x.2.2.1
def U2:Par:=⟨bE.tab,DL [(18,xh),(96,Jv),(60,yE)] [] [] [] [(59,jH)],λ_=>look [],λ_=>look []⟩
def U1:aj prog 97 (HJ):=evX func97 (S:=U2) aB (uA ⟨mod2_x,Ss,CB,anO⟩ trivial trivial trivial ⟨nT,anO⟩) (tys:=[aO]) (λf x=>uD true (sm cR) x.1 x.2.1 x.2.2.1) (λx=>by show _=Option.map cR _;simp only[uD,eQ,ss])
abbrev ct (C:Type):=Υ→Nat→Int→Υ→Option C
abbrev jf (C:Type):=Υ→Int→Nat→Int→Υ→Option C
abbrev JF (C:Type):=Υ→Int→Int→Nat→Int→Υ→Option C
abbrev MF (C:Type):=Υ→Int→Nat→Υ→Option C
def lC (m:Bool)(K:bw→Option C)(g:jf C):ct C:=λl f i out=>cond (i<il l) (fz m tInt (ni f) (λj=>g l i f j out)) (K ((List.take f out).drop 0))
def lD (m:Bool)(K:bw→Option C)(g:ct C):MF C:=λl i f out=>fz m tInt (w64 (i+1)) λj=>g l f j out
def eO (m:Bool)(K:bw→Option C)(p:ct C):JF C:=λl i g f j out=>let a:=List.take (0+f) out;ck (0≤j&&j≤ni f) (ck (lm (List.length ([]:List aa.den)+List.length (a.drop (0+Int.toNat j)))) (ck (0≤g&&g≤ni f) (ck (bd i l.length) (ck (lm (0+Int.toNat g+List.length ([ix aa l i]:List aa.den))) (ck (lm (0+Int.toNat g+List.length ([ix aa l i]:List aa.den)+List.length (([]:List aa.den)++a.drop (0+Int.toNat j)))) (fm m (0+Int.toNat g+List.length ([ix aa l i]:List aa.den)+List.length (([]:List aa.den)++a.drop (0+Int.toNat j))) (λJ=>fz m (.slice aa) (List.take (0+Int.toNat g+List.length ([ix aa l i]:List aa.den)) (List.take (0+Int.toNat g) out++[ix aa l i])++(([]:List aa.den)++a.drop (0+Int.toNat j))) λr=>lD m K p l i J r)))))))
def lB (m:Bool)(K:bw→Option C)(J:jf C)(r:ct C):jf C:=λl i j p out=>let g:=w64 (p-1);let f:=ix aa l i;let e:=List.getD out (0+Int.toNat p) (zero aa);let d:=decide (p>0);let c:=bd i l.length;let b:=List.getD out (0+Int.toNat g) (zero aa);let a:Bool:=cond (p<ni j) (e.1=f.1) false;nq m [2] (p>0) (nm m 2 (p>0) (0≤w64 (p-1)&&w64 (p-1)<ni j) (nq m [2,2,2] (p>0) (nm m 2 (p>0) (0≤w64 (p-1)&&w64 (p-1)<ni j) (nq m [2,2] (p>0) (nm m 2 (p>0) c (nq m [2,2] (p>0) (nm m 2 (p>0) c (nq m [2,2] (p>0) (ck (ii d&&(ii d&&(ii d&&(ii d&&true)))&&true) (nq m [2,1] (p>0) (cond (cond (p>0) (!ua b.1 b.2.1 f.1 f.2.1) false) (fz m tInt g (λR=>J l i j R out)) (nm m 2 (p<ni j) (0≤p&&p<ni j) (nq m [2,2] (p<ni j) (nm m 2 (p<ni j) c (nq m [2,2,3,1] (p<ni j) (nm m 2 a (0≤p&&p<ni j) (nq m [2,2] a (nm m 2 a c (nq m [2,2,3,1] a (cond (cond a (e.2.1=f.2.1) false) (fz m tInt (w64 (p+1)) (λP=>eO m K r l i p j P out)) (eO m K r l i p j p out)))))))))))))))))))))
def uB (m:Bool)(K:bw→Option C)(f:ct C)(l:Υ):Option C:=f l 0 0 []
def jh (g:ct bw):Nat→jf bw:=lp (λ_ _ _ _ _=>none) λf=>lB false some f g
def np:Nat→ct bw:=lp (λ_ _ _ _=>none) λf=>lC false some (jh f FU)
def lE (l:Υ):Option bw:=uB false some (np FU) l
def HG:Ent:=evE (.cons (.slice aa) .unit) bG (zero (.slice aa)) λx=>lE x.1
def jg:MS:=⟨0,[],[(0,.dat (.slice aa)),(3,.mut aa 44),(4,.dat tInt)]⟩
def BB:MS:=⟨0,[],[(0,.dat (.slice aa)),(3,.mut aa 44),(4,.dat tInt),(5,.dat tInt)]⟩
def JG:MS:=⟨0,[],[(0,.dat (.slice aa)),(3,.mut aa 44),(4,.dat tInt),(5,.dat tInt),(6,.dat tInt)]⟩
def HH:Par:=⟨bE.tab,aF [(145,vK)],λ_=>look [(11,JG),(4,jg)],λ_=>look [(3,jg),(6,BB)]⟩
def HI:KT:=bB bE.tab [.tmp 2] [(.slice aa)]
def iH:=h12 HH f103
def ji (g n:Nat):ct AV:=λl f i out=>aT 0 jg (iH g 0 [1,1,0,1,0,0]) (am 0 (be 0 none (iH g 0 [1,1,1]) HI)) n ⟨mkE 96 [(0,.val (.slice aa) l),(3,.msl 0 0 0 f),(4,.val tInt i)],mkH 1 [(0,.mrow aa 44 0 out)]⟩
def nl (f p n:Nat):jf AV:=λl i g j out=>aT 0 BB (iH f 0 [1,1,0,1,0,0,1,0,0,1,0,0,0]) (am 2 (be 0 none (iH f 0 [1,1,0,1,0,0,1,0,0,1,1]) (am 1 (be 0 (some jg) (iH f 0 [1,1,0,1,0,0,1,1]) (kLp 0 jg (iH f 0 [1,1,0,1,0,0]) (am 0 (be 0 none (iH f 0 [1,1,1]) HI)) p))))) n ⟨mkE 96 [(0,.val (.slice aa) l),(3,.msl 0 0 0 g),(4,.val tInt i),(5,.val tInt j)],mkH 1 [(0,.mrow aa 44 0 out)]⟩
def MI (f g:Nat):ji f (g+1)=lC true (sm bG) (nl f g f):=Φ
def MG (f g j:Nat):nl f g (j+1)=lB true (sm bG) (nl f g j) (ji f g):=Φ
def MH (j:Nat){f:ct bw}(g:ji FU j=mp4 bG f):∀n,nl FU j n=mp5 bG (jh f n):=cM Φ λl _ h=>(MG FU j l).trans (by rw[h,g];funext _ _ _ _ _;simp only[lB,eO,lD,ss])
def MJ:∀n,ji FU n=mp4 bG (np n):=cM Φ λf _ h=>(MI FU f).trans (by rw[MH f h FU];funext _ _ _ _;simp only[lC,eO,lD,ss])
def UY:aj prog 103 (HG):=evX func103 (S:=HH) aB (af ⟨LF,anO⟩) (tys:=[(.slice aa)]) (λf x=>uB true (sm bG) (ji f f) x.1) (λx=>by show _=Option.map bG _;rw[MJ FU];simp only[uB,lE,eO,lD,ss])
abbrev jN (C:Type):=Int→(List Int)→aP.den→Υ→Int→Option C
abbrev p7 (C:Type):=Int→(List Int)→Int→Υ→aP.den→Υ→Int→Option C
abbrev abH (C:Type):=Int→(List Int)→Int→Υ→Int→aP.den→Υ→Option C
def Ad (m:Bool)(K:bw→Option C)(f:p7 C):jN C:=λid r1 g out i=>nq m [2,1] (i<il ([id]++r1)) (cond (cond (i<il ([id]++r1)) (i<12) false) (ck (bd i ([id]++r1).length) (cl m (.slice aa) (EP g.1 (ix tInt ([id]++r1) i)) (λj=>f id r1 i j g out 0))) (K out))
def vJ (m:Bool)(K:bw→Option C)(f:p7 C):abH C:=λid r1 i p j l out=>fz m tInt (w64 (j+1)) λg=>f id r1 i p l out g
def Aa (m:Bool)(K:bw→Option C)(f:p7 C)(l:jN C):p7 C:=λid r1 i j J out g=>let a:=bd g j.length;cond (g<il j) (ck a (cond (!(ix aa j g).2.1=1) (ck a (ck (lm (List.length out+List.length ([ix aa j g]:List aa.den))) (fz m (.slice aa) (out++[ix aa j g]) (λp=>vJ m K f id r1 i j g J p)))) (vJ m K f id r1 i j g J out))) (fz m tInt (w64 (i+1)) (λr=>l id r1 J out r))
def LC (m:Bool)(K:bw→Option C)(f:jN C)(g:aP.den)(id:Int):Option C:=cl m (.slice tInt) (mF g id) λr1=>ck (lm (List.length ([id]:List Int)+List.length r1)) (f id r1 g [] 0)
def tZ (g:jN bw):Nat→p7 bw:=lp (λ_ _ _ _ _ _ _=>none) λf=>Aa false some f g
def Ac:Nat→jN bw:=lp (λ_ _ _ _ _=>none) λf=>Ad false some (tZ f FU)
def od (f:aP.den)(id:Int):Option bw:=LC false some (Ac FU) f id
def abM:Ent:=evE (.cons aP (.cons tInt .unit)) bG (zero (.slice aa)) λx=>od x.1 x.2.1
def GD:MS:=⟨1,[(0,[.dat (.slice aa)])],[(2,.keep),(5,.dat (.slice tInt)),(6,.own aa 44),(7,.dat tInt)]⟩
def GC:MS:=⟨1,[(0,[.dat (.slice aa)])],[(2,.keep),(5,.dat (.slice tInt)),(6,.own aa 44),(7,.dat tInt),(8,.dat (.slice aa)),(9,.dat tInt)]⟩
def abN:Par:=⟨bE.tab,aF [(143,I7),(144,ae1)],λ_=>look [(9,GC)],λ_=>look [(4,GD),(8,GC)]⟩
def Bi:=h12 abN f102
def t8 (f n:Nat):jN AV:=λid r1 g out i=>aT 0 GD (Bi f 0 [1,1,1,0,1,0,0]) (am 0 (be 0 none (Bi f 0 [1,1,1,1]) YX)) n ⟨mkE 53 [(2,.box 0 0),(5,.val (.slice tInt) ([id]++r1)),(6,.own 1 0 aa out),(7,.val tInt i)],mkH 2 [(0,.box [.val (.slice aa) g.1]),(1,.row aa 44 0)]⟩
def z8 (f p n:Nat):p7 AV:=λid r1 i l j out g=>aT 0 GC (Bi f 0 [1,1,1,0,1,0,0,1,0,0,1,1,0,0]) (am 2 (am 1 (be 0 none (Bi f 0 [1,1,1,0,1,0,0,1,1]) (kLp 0 GD (Bi f 0 [1,1,1,0,1,0,0]) (am 0 (be 0 none (Bi f 0 [1,1,1,1]) YX)) p)))) n ⟨mkE 53 [(2,.box 0 0),(5,.val (.slice tInt) ([id]++r1)),(6,.own 1 0 aa out),(7,.val tInt i),(8,.val (.slice aa) l),(9,.val tInt g)],mkH 2 [(0,.box [.val (.slice aa) j.1]),(1,.row aa 44 0)]⟩
def abK (f g:Nat):t8 f (g+1)=Ad true (sm bG) (z8 f g f):=Φ
def abI (f g j:Nat):z8 f g (j+1)=Aa true (sm bG) (z8 f g j) (t8 f g):=Φ
def abJ (j:Nat){f:jN bw}(g:t8 FU j=mp5 bG f):∀n,z8 FU j n=mp7 bG (tZ f n):=cM Φ λl _ h=>(abI FU j l).trans (by rw[h,g];funext _ _ _ _ _ _ _;simp only[Aa,vJ,ss])
def abL:∀n,t8 FU n=mp5 bG (Ac n):=cM Φ λf _ h=>(abK FU f).trans (by rw[abJ f h FU];funext _ _ _ _ _;simp only[Ad,vJ,ss])
def ahm:aj prog 102 (abM):=evX func102 (S:=abN) aB (af ⟨WW,ahK,anO⟩) (tys:=[(.slice aa)]) (λf x=>LC true (sm bG) (t8 f f) x.1 x.2.1) (λx=>by show _=Option.map bG _;rw[abL FU];simp only[LC,od,vJ,ss])
abbrev fk (C:Type):=Nat→Int→Υ→Option C
abbrev JQ (C:Type):=Int→Nat→Υ→Option C
def jm (m:Bool)(K:bw→Option C)(g:fk C):JQ C:=λi f out=>fz m tInt (w64 (i+1)) λj=>g f j out
def jl (m:Bool)(K:bw→Option C)(g:fk C):fk C:=λf i out=>let a:=List.getD out (0+Int.toNat i) (zero aa);cond (i<ni f) (ck (0≤i&&i<ni f) (cond (a.2.1=2) (ck (0≤i&&i<ni f) (fz m (.slice aa) (List.set out (0+Int.toNat i) (a.1,a.2.1,(0,false,[],0,()),())) (λj=>jm m K g i f j))) (jm m K g i f out))) (K ((List.take f out).drop 0))
def qN (m:Bool)(K:bw→Option C)(f:fk C)(l:Υ):Option C:=ck (lm (0+List.length l)) (fm m (0+List.length l) (λj=>fz m (.slice aa) (List.take 0 []++l) λg=>f j 0 g))
def kh:Nat→fk bw:=lp (λ_ _ _=>none) λf=>jl false some f
def eU (l:Υ):Option bw:=qN false some (kh FU) l
def DZ:Ent:=evE (.cons (.slice aa) .unit) bG (zero (.slice aa)) λx=>eU x.1
def qO:MS:=⟨0,[],[(3,.mut aa 44),(4,.dat tInt)]⟩
def D0:Par:=⟨Mp.tab,aF [],λ_=>look [(4,qO)],λ_=>look [(3,qO)]⟩
def Qq:KT:=bB Mp.tab [.tmp 2] [(.slice aa)]
def D4:=h12 D0 f101
def kg (g n:Nat):fk AV:=λf i out=>aT 0 qO (D4 g 0 [1,1,0,1,0,0]) (am 0 (be 0 none (D4 g 0 [1,1,1]) Qq)) n ⟨mkE 26 [(3,.msl 0 0 0 f),(4,.val tInt i)],mkH 1 [(0,.mrow aa 44 0 out)]⟩
def JR (f g:Nat):kg f (g+1)=jl true (sm bG) (kg f g):=Φ
def JS:∀n,kg FU n=mp3 bG (kh n):=cM Φ λf _ h=>(JR FU f).trans (by rw[h];funext _ _ _;simp only[jl,jm,ss])
def Qp:aj prog 101 (DZ):=evX func101 (S:=D0) Mo (af trivial) (tys:=[(.slice aa)]) (λf x=>qN true (sm bG) (kg f f) x.1) (λx=>by show _=Option.map bG _;rw[JS FU];simp only[qN,eU,jm,ss])
abbrev dq (C:Type):=Int→(List Int)→(List Int)→(List Int)→Int→Bool→(List ag.den)→Int→Int→Int→Int→Υ→Option C
abbrev jZ (C:Type):=Int→Int→Int→Int→Int→Int→Option C
abbrev fg (C:Type):=Υ→Option C
abbrev jY (C:Type):=Int→Int→Bool→Str→Int→Option C
def qb (m:Bool)(K:bw→Option C)(r:jZ C)(p:dq C):dq C:=λP r2 r3 r4 U t33 J l j f g R=>cond t33 (cl m tInt (ba r2 f) (λr6=>cl m tInt (fQ (J,()) r6) λr7=>nq m [2,0] (!r7=5) (cond (cond (r7=5) true (r7=0)) (cl m tInt (ba r4 f) (λr8=>r r8 2 l j f g)) (r r6 r7 l j f g)))) (cond (U=2) (fz m .bool (decide (U=2)) (λT=>p P r2 r3 r4 U T J l j f g R)) (fz m .bool (decide (U=3)) (λT=>p P r2 r3 r4 U T J l j f g R)))
def mV (m:Bool)(K:bw→Option C)(f:fg C):jZ C:=λid l J r p g=>cl m .str (jc l g) λr9=>ck (lm (List.length ([]:List aa.den)+List.length ([(id,3,(0,false,r9,0,()),())]:List aa.den))) (fz m (.slice aa) ([]++[(id,3,(0,false,r9,0,()),())]) (λj=>f j))
def mU (m:Bool)(K:bw→Option C)(g:fg C)(P:jY C):dq C:=λf r2 r3 r4 T t63 l b1_0 b1_1 r j R=>let e:=ba r2 r;let d:=aE (l,()) 4;let c:=aE (l,()) 1;let b:=w64 (Int.tdiv j 2);let a:=ba r3 r;cond t63 (cl m tInt a (λr10=>cl m aO (fM (l,()) r10 4) λr11=>cl m aO (eQ r11 (l,()) j) λr12=>ck (lm (List.length ([]:List aa.den)+List.length ([(r10,4,r12,())]:List aa.den))) (fz m (.slice aa) ([]++[(r10,4,r12,())]) (λp=>g p)))) (cond (T=4) (cl m tInt e (λr13=>cl m tInt (mod2_ev j 3) λr14=>ck (!(3:Int)=0) (cl m .str (ly (w64 (Int.tdiv j 3))) (λr15=>ck (lm (List.length ([]:List aa.den)+List.length ([(r13,w64 ((8:Int)+r14),(0,false,r15,0,()),())]:List aa.den))) (fz m (.slice aa) ([]++[(r13,w64 ((8:Int)+r14),(0,false,r15,0,()),())]) (λp=>g p)))))) (cond (T=5) (cl m tInt (ba r4 r) (λr16=>cl m (.slice tInt) c λr17=>cl m tInt (ba r17 j) λr18=>ck (!(2:Int)=0) (cl m .str (ra b) (λr19=>ck (lm (List.length ([]:List aa.den)+List.length ([(r16,2,(0,false,r19,r18,()),())]:List aa.den))) (fz m (.slice aa) ([]++[(r16,2,(0,false,r19,r18,()),())]) (λp=>g p)))))) (cond (T=6) (cl m tInt a (λr20=>cl m tInt (ba r3 j) λr21=>cl m aO (fM (l,()) r21 2) λr22=>ck (lm (List.length ([]:List aa.den)+List.length ([(r20,2,r22,())]:List aa.den))) (fz m (.slice aa) ([]++[(r20,2,r22,())]) (λp=>g p)))) (cond (T=7) (cl m tInt a (λr23=>cl m aO (fM (l,()) r23 2) λr24=>cl m (.slice aa) (od (R,()) r23) λr25=>cl m (.slice aa) (eU r25) λr26=>ck (lm (List.length ([]:List aa.den)+List.length r26)) (cl m aO (fM (l,()) r23 4) (λr27=>cl m aO (eQ r27 (l,()) j) λr28=>ck (lm (List.length ([]++r26)+List.length ([(w64 (f+1),1,(5,false,[],0,()),()),(w64 (f+1),2,r24,()),(w64 (f+1),4,r28,())]:List aa.den))) (fz m (.slice aa) ([]++r26++[(w64 (f+1),1,(5,false,[],0,()),()),(w64 (f+1),2,r24,()),(w64 (f+1),4,r28,())]) (λp=>g p)))))) (cond (T=8) (cl m (.slice tInt) c (λr29=>cl m tInt (ba r29 r) λr30=>cl m .str (ra j) λr31=>cl m .str (jc 2 j) λr32=>ck (!(2:Int)=0) (cl m aO (eQ (0,false,[],0,()) (l,()) b) (λr33=>ck (lm (List.length ([]:List aa.den)+List.length ([(w64 (f+1),1,(2,false,[],0,()),()),(w64 (f+1),2,(0,false,r31,r30,()),()),(w64 (f+1),3,(0,false,r32,0,()),()),(w64 (f+1),8,(0,false,[10],0,()),()),(w64 (f+1),9,(0,false,[32],0,()),()),(w64 (f+2),1,(5,false,[],0,()),()),(w64 (f+2),2,(1,false,[],w64 (f+1),()),()),(w64 (f+2),4,(5,false,[],0,()),()),(w64 (f+3),1,(5,false,[],0,()),()),(w64 (f+3),2,(2,false,[],w64 (f+1),()),()),(w64 (f+3),4,r33,())]:List aa.den))) (fz m (.slice aa) ([]++[(w64 (f+1),1,(2,false,[],0,()),()),(w64 (f+1),2,(0,false,r31,r30,()),()),(w64 (f+1),3,(0,false,r32,0,()),()),(w64 (f+1),8,(0,false,[10],0,()),()),(w64 (f+1),9,(0,false,[32],0,()),()),(w64 (f+2),1,(5,false,[],0,()),()),(w64 (f+2),2,(1,false,[],w64 (f+1),()),()),(w64 (f+2),4,(5,false,[],0,()),()),(w64 (f+3),1,(5,false,[],0,()),()),(w64 (f+3),2,(2,false,[],w64 (f+1),()),()),(w64 (f+3),4,r33,())]) (λp=>g p)))))) (cond (T=9) (cl m (.slice tInt) d (λr34=>ck (lm (r4.length+r34.length)) (cl m tInt (ba (r4++r34) r) (λr35=>cl m (.slice aa) (od (R,()) r35) λr36=>cl m (.slice aa) (eU r36) λr37=>g r37)))) (cond (T=10) (cl m (.slice tInt) d (λr38=>cl m tInt (ba r38 r) λU=>cl m aO (fM (l,()) U 2) λJ=>cond (!J.2.2.2.1=0) (cl m .str (ra j) (λr41=>P U J.1 J.2.1 r41 J.2.2.2.1)) (P U J.1 J.2.1 J.2.2.1 J.2.2.2.1))) (cond (T=11) (cl m tInt e (λr42=>cl m (.slice aa) (od (R,()) r42) λr43=>g r43)) (g [])))))))))
def mS (m:Bool)(K:bw→Option C):fg C:=λw=>cl m (.slice aa) (lE w) λf=>K f
def mT (m:Bool)(K:bw→Option C)(p:fg C):jY C:=λr l j g f=>ck (lm (List.length ([]:List aa.den)+List.length ([(r,2,(l,j,g,f,()),())]:List aa.den))) (fz m (.slice aa) ([]++[(r,2,(l,j,g,f,()),())]) (λJ=>p J))
def ug (m:Bool)(K:bw→Option C)(j:dq C)(s:ah.den)(d:bc.den)(g:Int):Option C:=ce m aP (stG s) (eX s) λr1=>cl m (.slice tInt) (aE s 0) λr2=>cl m (.slice tInt) (aE s 5) λU=>cl m (.slice tInt) (aE s 2) λT=>cl m tInt (mod2_ev d.1 13) λR=>cond (R=0) (fz m .bool (decide (R=0)) (λP=>fz m (.slice ag) s.1 λJ=>fz m tInt d.1 λr=>fz m tInt d.2.1 λp=>fz m tInt d.2.2.1 λl=>fz m tInt d.2.2.2.1 λf=>j g r2 U T R P J r p l f r1.1)) (fz m .bool (decide (R=1)) (λP=>fz m (.slice ag) s.1 λJ=>fz m tInt d.1 λr=>fz m tInt d.2.1 λp=>fz m tInt d.2.2.1 λl=>fz m tInt d.2.2.2.1 λf=>j g r2 U T R P J r p l f r1.1))
def dy:fg bw:=mS false some
def dA:jZ bw:=mV false some dy
def gQ:jY bw:=mT false some dy
def gR:dq bw:=mU false some dy gQ
def mR:dq bw:=qb false some dA gR
def k7 (s:ah.den)(d:bc.den)(f:Int):Option bw:=ug false some mR s d f
def Hn:Ent:=evE (.cons ah (.cons bc (.cons tInt .unit))) bG (zero (.slice aa)) λx=>k7 x.1 x.2.1 x.2.2.1
def LP:MS:=⟨6,[(0,[.dat (.slice ag)]),(1,[.dat tInt,.dat tInt,.dat tInt,.dat tInt]),(5,[.dat (.slice aa)])],[(2,.dat tInt),(3,.keep),(4,.keep),(7,.keep),(8,.dat (.slice tInt)),(9,.dat (.slice tInt)),(10,.own tInt 3),(11,.own aa 44),(32,.dat tInt),(33,.dat .bool)]⟩
def Jl:MS:=⟨2,[(0,[.drop]),(1,[.dat tInt,.dat tInt,.dat tInt,.dat tInt])],[(4,.keep),(11,.own aa 44),(12,.dat tInt),(13,.dat tInt)]⟩
def Jj:MS:=⟨6,[(0,[.dat (.slice ag)]),(1,[.dat tInt,.dat tInt,.dat tInt,.dat tInt]),(5,[.dat (.slice aa)])],[(2,.dat tInt),(3,.keep),(4,.keep),(7,.keep),(8,.dat (.slice tInt)),(9,.dat (.slice tInt)),(10,.own tInt 3),(11,.own aa 44),(32,.dat tInt),(63,.dat .bool)]⟩
def gO:MS:=⟨0,[],[(11,.dat (.slice aa))]⟩
def Ji:MS:=⟨32,[(0,[.drop]),(1,[.drop,.drop,.drop,.drop]),(5,[.drop]),(31,[.dat tInt,.dat .bool,.dat .str,.dat tInt])],[(11,.own aa 44),(20,.dat tInt),(21,.keep)]⟩
def Ho:Par:=⟨bE.tab,DL [(94,E2),(18,xh),(60,yE),(95,zb),(96,Jv),(98,SV),(97,HJ),(99,HD),(100,Zo),(102,abM),(101,DZ),(103,HG)] [] [] [] [(59,jH)],λ_=>look [(9,LP),(14,Jl),(17,Jj),(45,gO),(42,Ji)],λ_=>look []⟩
def oQ:KT:=bB bE.tab [.tmp 6] [(.slice aa)]
def fh:=h12 Ho f55
def sa (f:Nat):dq AV:=λg r2 U T R P J C r p l j=>fh f 0 [1,1,1,1,1,1,0,1,0,1] ⟨mkE 290 [(2,.val tInt g),(3,.box 0 0),(4,.box 1 0),(7,.box 5 0),(8,.val (.slice tInt) r2),(9,.val (.slice tInt) U),(10,.own 6 0 tInt T),(11,.own 7 0 aa []),(32,.val tInt R),(33,.val .bool P)],mkH 8 [(0,.box [.val (.slice ag) J]),(1,.box [.val tInt C,.val tInt r,.val tInt p,.val tInt l]),(5,.box [.val (.slice aa) j]),(6,.row tInt 3 0),(7,.row aa 44 0)]⟩ (am 0 (be 0 (some gO) (fh f 0 [1,1,1,1,1,1,1]) oQ))
def qh (f:Nat):jZ AV:=λid r p l j g=>fh f 0 [1,1,1,1,1,1,0,1,0,1,0,1,1,1] ⟨mkE 290 [(4,.box 1 0),(11,.own 2 0 aa []),(12,.val tInt id),(13,.val tInt r)],mkH 3 [(0,.box [.unk]),(1,.box [.val tInt p,.val tInt l,.val tInt j,.val tInt g]),(2,.row aa 44 0)]⟩ (am 0 (be 0 (some gO) (fh f 0 [1,1,1,1,1,1,1]) oQ))
def qg (f:Nat):dq AV:=λg r2 U T R P J C r p l j=>fh f 0 [1,1,1,1,1,1,0,1,0,1,1,1] ⟨mkE 290 [(2,.val tInt g),(3,.box 0 0),(4,.box 1 0),(7,.box 5 0),(8,.val (.slice tInt) r2),(9,.val (.slice tInt) U),(10,.own 6 0 tInt T),(11,.own 7 0 aa []),(32,.val tInt R),(63,.val .bool P)],mkH 8 [(0,.box [.val (.slice ag) J]),(1,.box [.val tInt C,.val tInt r,.val tInt p,.val tInt l]),(5,.box [.val (.slice aa) j]),(6,.row tInt 3 0),(7,.row aa 44 0)]⟩ (am 0 (be 0 (some gO) (fh f 0 [1,1,1,1,1,1,1]) oQ))
def gP (f:Nat):fg AV:=λw=>fh f 0 [1,1,1,1,1,1,1] ⟨mkE 290 [(11,.val (.slice aa) w)],mkH 0 []⟩ oQ
def qf (f:Nat):jY AV:=λr p l j g=>fh f 0 [1,1,1,1,1,1,0,1,0,1,1,1,1,1,1,1,1,1,1,1,1,1,1,1,1,1,0,1,1,1] ⟨mkE 290 [(11,.own 32 0 aa []),(20,.val tInt r),(21,.box 31 0)],mkH 33 [(0,.box [.unk]),(1,.box [.unk,.unk,.unk,.unk]),(5,.box [.unk]),(6,.row tInt 3 0),(7,.row aa 44 1),(23,.row tInt 3 1),(31,.box [.val tInt p,.val .bool l,.val .str j,.val tInt g]),(32,.row aa 44 0)]⟩ (am 0 (be 0 (some gO) (fh f 0 [1,1,1,1,1,1,1]) oQ))
def LQ (f:Nat):sa f=qb true (sm bG) (qh f) (qg f):=Φ
def Jr (f:Nat):qh f=mV true (sm bG) (gP f):=Φ
def Jp (f:Nat):qg f=mU true (sm bG) (gP f) (qf f):=Φ
def Jm (f:Nat):gP f=mS true (sm bG):=Φ
def Jn (f:Nat):qf f=mT true (sm bG) (gP f):=Φ
def qd:gP FU=mp1 bG (dy):=(Jm FU).trans (by funext _;simp only[mS,dy,ss])
def Js:qh FU=mp6 bG (dA):=(Jr FU).trans (by rw[qd];funext _ _ _ _ _ _;simp only[mV,dA,ss])
def Jo:qf FU=mp5 bG (gQ):=(Jn FU).trans (by rw[qd];funext _ _ _ _ _;simp only[mT,gQ,ss])
def Jq:qg FU=agf bG (gR):=(Jp FU).trans (by rw[qd,Jo];funext _ _ _ _ _ _ _ _ _ _ _ _;simp only[mU,gR,ss])
def LR:sa FU=agf bG (mR):=(LQ FU).trans (by rw[Js,Jq];funext _ _ _ _ _ _ _ _ _ _ _ _;simp only[qb,mR,ss])
def Uo:aj prog 55 (Hn):=evX func55 (S:=Ho) aB (uA ⟨Za,mod2_x,CB,CM,Ss,acp,U1,UD,ago,ahm,Qp,UY,anO⟩ trivial trivial trivial ⟨nT,anO⟩) (tys:=[(.slice aa)]) (λf x=>ug true (sm bG) (sa f) x.1 x.2.1 x.2.2.1) (λx=>by show _=Option.map bG _;rw[LR];simp only[ug,k7,ss])
abbrev dh (C:Type):=Λ→Int→Int→Int→Option C
abbrev gG (C:Type):=Λ→Int→Int→Int→Int→Option C
def pz (m:Bool)(K:Int→Option C)(g:gG C):dh C:=λl f i x=>g l f i x 0
def ta (m:Bool)(K:Int→Option C)(g:gG C):dh C:=λl f x i=>let b:=bd i l.length;let a:=ix tCommit l i;cond (i<il l) (ck b (ck (0≤(20:Int)) (cond (U4 .i64 a.1 20=f) (ck b (fz m tInt (th x a.1) (λj=>pz m K g l f i j))) (pz m K g l f i x)))) (K x)
def px (m:Bool)(K:Int→Option C)(g:gG C):gG C:=λl f i p x=>fz m tInt (w64 (p+1)) λj=>g l f i x j
def tc (m:Bool)(K:Int→Option C)(g:dh C):dh C:=λl f i x=>fz m tInt (w64 (i+1)) λj=>g l f x j
def sZ (m:Bool)(K:Int→Option C)(g:gG C)(p:dh C):gG C:=λl f i x j=>let b:=bd i l.length;let a:=ix tCommit l i;let d:=ix aa a.2.2.2.2.1 j;let c:=bd j a.2.2.2.2.1.length;ck b (cond (j<il a.2.2.2.2.1) (ck b (ck c (ck (0≤(20:Int)) (cond (U4 .i64 d.1 20=f) (ck b (ck c (fz m tInt (th x d.1) (λr=>px m K g l f i j r)))) (px m K g l f i j x))))) (tc m K p l f i x))
def CJ (m:Bool)(K:Int→Option C)(g:dh C)(l:Λ)(f:Int):Option C:=ck (0≤(20:Int)) (fz m tInt (Yd .i64 f 20) (λj=>g l f j 0))
def kM (g:dh Int):Nat→gG Int:=lp (λ_ _ _ _ _=>none) λf=>sZ false some f g
def pw:Nat→dh Int:=lp (λ_ _ _ _=>none) λf=>ta false some (kM f FU)
def pB (l:Λ)(f:Int):Option Int:=CJ false some (pw FU) l f
def Tg:Ent:=evE (.cons (.slice tCommit) (.cons tInt .unit)) av (zero tInt) λx=>pB x.1 x.2.1
def kL:MS:=⟨0,[],[(0,.dat (.slice tCommit)),(1,.dat tInt),(5,.dat tInt),(6,.dat tInt)]⟩
def AA:MS:=⟨0,[],[(0,.dat (.slice tCommit)),(1,.dat tInt),(5,.dat tInt),(6,.dat tInt),(7,.dat tInt)]⟩
def Th:Par:=⟨bE.tab,aF [],λ_=>look [(7,kL),(9,AA),(4,kL)],λ_=>look [(3,kL),(8,AA)]⟩
def uW:=h12 Th f54
def pu (f n:Nat):dh AV:=λl g x i=>aT 0 kL (uW f 0 [1,1,0,1,0,0]) (am 0 (be 0 none (uW f 0 [1,1,1]) AQ)) n ⟨mkE 65 [(0,.val (.slice tCommit) l),(1,.val tInt g),(5,.val tInt x),(6,.val tInt i)],mkH 0 []⟩
def uV (f p n:Nat):gG AV:=λl g i x j=>aT 0 AA (uW f 0 [1,1,0,1,0,0,1,0,0,1,1,0,0]) (am 2 (am 1 (be 0 (some kL) (uW f 0 [1,1,0,1,0,0,1,1]) (kLp 0 kL (uW f 0 [1,1,0,1,0,0]) (am 0 (be 0 none (uW f 0 [1,1,1]) AQ)) p)))) n ⟨mkE 65 [(0,.val (.slice tCommit) l),(1,.val tInt g),(5,.val tInt x),(6,.val tInt i),(7,.val tInt j)],mkH 0 []⟩
def VE (f g:Nat):pu f (g+1)=ta true (sm av) (uV f g f):=Φ
def VC (f g j:Nat):uV f g (j+1)=sZ true (sm av) (uV f g j) (pu f g):=Φ
def VD (j:Nat){f:dh Int}(g:pu FU j=mp4 av f):∀n,uV FU j n=mp5 av (kM f n):=cM Φ λl _ h=>(VC FU j l).trans (by rw[h,g];funext _ _ _ _ _;simp only[sZ,tc,pz,px,ss])
def VF:∀n,pu FU n=mp4 av (pw n):=cM Φ λf _ h=>(VE FU f).trans (by rw[VD f h FU];funext _ _ _ _;simp only[ta,tc,pz,px,ss])
def ade:aj prog 54 (Tg):=evX func54 (S:=Th) aB (af trivial) (tys:=[tInt]) (λf x=>CJ true (sm av) (pu f f) x.1 x.2.1) (λx=>by show _=Option.map av _;rw[VF FU];simp only[CJ,pB,tc,pz,px,ss])
abbrev dX:=Λ
abbrev jy (C:Type):=Λ→tCommit.den→Int→Option C
def lY (m:Bool)(K:dX→Option C)(g:jy C):jy C:=λl c f=>let d:=Int.toNat f;let b:=List.take (List.length l) l;let a:=List.take d l;nm m 2 (f<il l) (bd f l.length) (nq m [2,2,2,3,1] (f<il l) (cond (cond (f<il l) ((ix tCommit l f).1<c.1) false) (fz m tInt (w64 (f+1)) (λj=>g l c j)) (ck (0≤f&&f≤(l.length:Int)) (ck (lm (List.length ([]:List tCommit.den)+List.length (a.drop 0))) (ck (lm (List.length ([]++a.drop 0)+List.length ([c]:List tCommit.den))) (ck (0≤f&&f≤(l.length:Int)) (ck (lm (List.length ([]++a.drop 0++[c])+List.length (b.drop d))) (K ([]++a.drop 0++[c]++b.drop d)))))))))
def u6 (m:Bool)(K:dX→Option C)(f:jy C)(l:Λ)(c:tCommit.den):Option C:=f l c 0
def nO:Nat→jy dX:=lp (λ_ _ _=>none) λf=>lY false some f
def lZ (l:Λ)(c:tCommit.den):Option dX:=u6 false some (nO FU) l c
def dW (r:dX):AV :=.val (.slice tCommit) r
def Iq:Ent:=evE (.cons (.slice tCommit) (.cons tCommit .unit)) dW (zero (.slice tCommit)) λx=>lZ x.1 x.2.1
def BV:MS:=⟨1,[(0,[.dat tInt,.dat (.slice tInt),.dat (.slice tInt),.dat .str,.dat (.slice aa)])],[(0,.dat (.slice tCommit)),(3,.keep),(5,.dat tInt)]⟩
def Ir:Par:=⟨bE.tab,aF [],λ_=>look [],λ_=>look [(2,BV)]⟩
def Is:KT:=bB bE.tab [.tmp 4] [(.slice tCommit)]
def It:=h12 Ir f27
def nM (f n:Nat):jy AV:=λl c g=>aT 0 BV (It f 0 [1,1,0,0,0]) (am 0 (be 0 none (It f 0 [1,1,1]) Is)) n ⟨mkE 37 [(0,.val (.slice tCommit) l),(3,.box 0 0),(5,.val tInt g)],mkH 1 [(0,.box [.val tInt c.1,.val (.slice tInt) c.2.1,.val (.slice tInt) c.2.2.1,.val .str c.2.2.2.1,.val (.slice aa) c.2.2.2.2.1])]⟩
def N6 (f g:Nat):nM f (g+1)=lY true (sm dW) (nM f g):=Φ
def N7:∀n,nM FU n=mp3 dW (nO n):=cM Φ λf _ h=>(N6 FU f).trans (by rw[h];funext _ _ _;simp only[lY,ss])
def Wh:aj prog 27 (Iq):=evX func27 (S:=Ir) aB (af trivial) (tys:=[(.slice tCommit)]) (λf x=>u6 true (sm dW) (nM f f) x.1 x.2.1) (λx=>by show _=Option.map dW _;rw[N7 FU];simp only[u6,lZ,ss])
abbrev O7 (C:Type):=Λ→Int→bc.den→(List Int)→Option C
abbrev Li (C:Type):=ah.den→Int→(List Int)→(List Int)→Str→Υ→Option C
def jJ (m:Bool)(K:ir→Option C):Li C:=λJ p l j g f=>cl m tInt (mn J (p,l,j,g,f,())) λr=>K ((p,l,j,g,f,()),decide (r=0),())
def mA (m:Bool)(K:ir→Option C):O7 C:=λl r1 d f=>cl m (.slice tInt) (su l f) λp=>cl m ah (pZ l p) λP=>cl m tInt (pB l (w64 ((1:Int)+r1))) λR=>cl m tInt (mod2_ev d.1 13) λr8=>cond (r8=12) (cl m tInt (mod2_ev d.2.2.1 (il l)) (λr9=>let a:=ix tCommit l r9;ck (bd r9 l.length) (fz m tInt (w64 (R+1)) (λj=>fz m (.slice tInt) [a.1] λJ=>fz m .str [100,101,101,100] λg=>fz m (.slice aa) a.2.2.2.2.1 λr=>jJ m K P j p J g r)))) (cl m (.slice aa) (k7 P d R) (λr10=>ck (lm (List.length ([]:List tCommit.den)+List.length l)) (ck (lm (List.length ([]++l)+List.length ([(0,p,[],[100,101,101,100],r10,())]:List tCommit.den))) (cl m tInt (pB ([]++l++[(0,p,[],[100,101,101,100],r10,())]) (w64 ((1:Int)+r1))) (λr11=>fz m tInt (w64 (r11+1)) λj=>fz m .str [100,101,101,100] λg=>jJ m K P j p [] g r10)))))
def vC (m:Bool)(K:ir→Option C)(l:Λ)(f:(List Int))(d:bc.den):Option C:=cl m tInt (mod2_ev d.2.1 3) λr1=>ck (!(3:Int)=0) (cl m tInt (mod2_ev (w64 (Int.tdiv d.2.1 3)) 3) (λr=>let a:=th (w64 (w64 (il f-1)-r)) 0;ck (bd a f.length) (ck (!(9:Int)=0) (cl m tInt (mod2_ev (w64 (Int.tdiv d.2.1 9)) 3) (λp=>cond (p=0) (ck (!(27:Int)=0) (cl m tInt (mod2_ev (w64 (Int.tdiv d.2.1 27)) (il f)) (λj=>ck (bd j f.length) (ck (lm (List.length ([ix tInt f a]:List Int)+List.length ([ix tInt f j]:List Int))) (fz m (.slice tInt) ([ix tInt f a]++[ix tInt f j]) (λg=>mA m K l r1 d g)))))) (fz m (.slice tInt) [ix tInt f a] (λg=>mA m K l r1 d g)))))))
def mB (l:Λ)(f:(List Int))(d:bc.den):Option ir:=vC false some l f d
def IY:Ent:=evE (.cons (.slice tCommit) (.cons (.slice tInt) (.cons bc .unit))) jF (zero (.cons tCommit (.cons .bool .unit))) λx=>mB x.1 x.2.1 x.2.2.1
def O8:MS:=⟨2,[(0,[.dat tInt,.dat tInt,.dat tInt,.dat tInt]),(1,[.dat tInt,.dat (.slice tInt),.dat (.slice tInt),.dat .str,.dat (.slice aa)])],[(0,.dat (.slice tCommit)),(5,.keep),(6,.keep),(8,.dat tInt),(10,.own tInt 3)]⟩
def Lj:MS:=⟨14,[(0,[.drop,.drop,.drop,.drop]),(1,[.dat tInt,.dat (.slice tInt),.dat (.slice tInt),.dat .str,.dat (.slice aa)]),(7,[.dat tInt,.dat (.slice tInt),.dat (.slice tInt),.dat .str,.dat (.slice aa)]),(13,[.dat (.slice ag)])],[(6,.keep),(11,.keep),(12,.keep)]⟩
def WI:Par:=⟨bE.tab,aF [(18,xh),(52,SA),(53,Lv),(54,Tg),(55,Hn),(56,IC)],λ_=>look [(6,O8),(14,Lj)],λ_=>look []⟩
def WH:aj prog 26 (IY):=evX func26 (S:=WI) aB (af ⟨mod2_x,abY,T6,ade,Uo,Wt,anO⟩) (tys:=[tCommit,.bool]) (λf x=>vC true (sm jF) x.1 x.2.1 x.2.2.1) (λx=>by show _=Option.map jF _;simp only[vC,mB,jJ,mA,ss])
abbrev fw (C:Type):=La'→Λ→(List Int)→Int→Option C
abbrev KU (C:Type):=La'→Int→Λ→(List Int)→Option C
def jA (m:Bool)(K:dX→Option C)(g:fw C):KU C:=λl i out f=>fz m tInt (w64 (i+1)) λj=>g l out f j
def jz (m:Bool)(K:dX→Option C)(g:fw C):fw C:=λl out f i=>nq m [2,1] (i<il l) (cond (cond (i<il l) (i<9) false) (ck (bd i l.length) (cl m (.cons tCommit (.cons .bool .unit)) (mB out f (ix bc l i)) (λj=>cond j.2.1 (cl m (.slice tCommit) (lZ out j.1) (λr=>ck (lm (List.length f+List.length ([j.1.1]:List Int))) (fz m (.slice tInt) (f++[j.1.1]) (λp=>jA m K g l i r p)))) (jA m K g l i out f)))) (K out))
def rj (m:Bool)(K:dX→Option C)(f:fw C)(first:Int)(l:La'):Option C:=ce m tCommit true (firstF first) λr1=>fz m (.slice tCommit) [r1] λj=>fz m (.slice tInt) [r1.1] λg=>f l j g 0
def kA:Nat→fw dX:=lp (λ_ _ _ _=>none) λf=>jz false some f
def jB (first:Int)(l:La'):Option dX:=rj false some (kA FU) first l
def Fx:Ent:=evE (.cons tInt (.cons (.slice bc) .unit)) dW (zero (.slice tCommit)) λx=>jB x.1 x.2.1
def rk:MS:=⟨0,[],[(1,.dat (.slice bc)),(6,.dat (.slice tCommit)),(7,.own tInt 3),(8,.dat tInt)]⟩
def Fy:Par:=⟨bE.tab,aF [(25,Ox),(26,IY),(27,Iq)],λ_=>look [(6,rk)],λ_=>look [(5,rk)]⟩
def FA:=h12 Fy f7
def kz (f n:Nat):fw AV:=λl out g i=>aT 0 rk (FA f 0 [1,1,1,1,0,1,0,0]) (am 0 (be 0 none (FA f 0 [1,1,1,1,1]) Is)) n ⟨mkE 48 [(1,.val (.slice bc) l),(6,.val (.slice tCommit) out),(7,.own 0 0 tInt g),(8,.val tInt i)],mkH 1 [(0,.row tInt 3 0)]⟩
def KV (f g:Nat):kz f (g+1)=jz true (sm dW) (kz f g):=Φ
def KW:∀n,kz FU n=mp4 dW (kA n):=cM Φ λf _ h=>(KV FU f).trans (by rw[h];funext _ _ _ _;simp only[jz,jA,ss])
def Ry:aj prog 7 (Fx):=evX func7 (S:=Fy) aB (af ⟨ZX,WH,Wh,anO⟩) (tys:=[(.slice tCommit)]) (λf x=>rj true (sm dW) (kz f f) x.1 x.2.1) (λx=>by show _=Option.map dW _;rw[KW FU];simp only[rj,jB,jA,ss])
def zr (m:Bool)(K:(List Int)→Option C)(l:Λ):Option C:=cl m (.slice tInt) (pQ l) λr1=>K r1
def vg (l:Λ):Option (List Int):=zr false some l
def Oi:Ent:=evE (.cons (.slice tCommit) .unit) ay (zero (.slice tInt)) λx=>vg x.1
def ZM:Par:=⟨bE.tab,aF [(151,Of)],λ_=>look [],λ_=>look []⟩
def ZL:aj prog 107 (Oi):=evX func107 (S:=ZM) aB (af ⟨ZK,anO⟩) (tys:=[(.slice tInt)]) (λf x=>zr true (sm ay) x.1) (λx=>by show _=Option.map ay _;simp only[zr,vg,ss])
def T8 (m:Bool)(K:ah.den→Option C)(l:Λ):Option C:=cl m (.slice tInt) (vg l) λr1=>cl m ah (pZ l r1) λf=>K f
def Bg (l:Λ):Option ah.den:=T8 false some l
def abt:Ent:=evE (.cons (.slice tCommit) .unit) bk (zero ah) λx=>Bg x.1
def ah1:Par:=⟨bE.tab,aF [(107,Oi),(53,Lv)],λ_=>look [],λ_=>look []⟩
def aff:aj prog 57 (abt):=evX func57 (S:=ah1) aB (af ⟨ZL,T6,anO⟩) (tys:=[ah]) (λf x=>T8 true (sm bk) x.1) (λx=>by show _=Option.map bk _;simp only[T8,Bg,ss])
end
