/- The equations of the program's functions. -/
import Derived.Test.YteiopcmalidhaaaGreatChainW
import Derived.Test.YteiopcmalidhaaaGreatFirG
set_option linter.all false
noncomputable section
namespace Go.Proofs.YteiopcmalidhaaaGreat
namespace Abs
open Go Tryz
section
def bF:TabL:={
 ty:=[(3,tInt),(4,.bool),(5,(.int .u8)),(9,.str),(22,(.slice bi)),(23,(.slice tCommit)),(33,(.slice tInt)),(36,aM),(39,(.slice tCell)),(41,tCommit),(45,(.slice ae)),(47,ag),(59,bi),(65,tCell),(66,tInt),(76,aN),(86,(.slice eM)),(89,eM),(112,(.slice (.slice tInt))),(128,ae),(214,(.slice (.int .u8)))],
 cells:=[(3,1),(4,1),(5,1),(9,1),(22,1),(23,1),(33,1),(36,4),(39,1),(41,5),(45,1),(47,1),(59,4),(65,6),(66,1),(76,1),(86,1),(89,5),(112,1),(128,3),(214,1)],
 offs:=[((36,0),0),((36,1),1),((36,2),2),((36,3),3),((41,0),0),((41,1),1),((41,2),2),((41,3),3),((41,4),4),((47,0),0),((59,0),0),((59,1),1),((59,2),2),((59,3),3),((65,0),0),((65,1),1),((65,2),2),((76,0),0),((89,0),0),((89,1),1),((128,0),0),((128,1),1),((128,2),2)],
 one:=[],
 elem:=[(22,59),(23,41),(33,3),(39,65),(45,128),(86,89),(112,33),(214,5)] }
def LQ:TabL:={
 ty:=[(3,tInt),(4,.bool),(5,(.int .u8)),(9,.str),(22,(.slice bi)),(23,(.slice tCommit)),(33,(.slice tInt)),(36,aM),(39,(.slice tCell)),(41,tCommit),(45,(.slice ae)),(47,ag),(59,bi),(65,tCell),(66,tInt),(76,aN),(86,(.slice eM)),(89,eM),(112,(.slice (.slice tInt))),(128,ae),(214,(.slice (.int .u8)))],
 cells:=[(3,1),(4,1),(5,1),(9,1),(22,1),(23,1),(33,1),(36,4),(39,1),(41,5),(45,1),(47,1),(59,4),(65,6),(66,1),(76,1),(86,1),(89,5),(112,1),(128,3),(214,1)],
 offs:=[((36,0),0),((36,1),1),((36,2),2),((36,3),3),((41,0),0),((41,1),1),((41,2),2),((41,3),3),((41,4),4),((47,0),0),((59,0),0),((59,1),1),((59,2),2),((59,3),3),((65,0),0),((65,1),1),((65,2),2),((76,0),0),((89,0),0),((89,1),1),((128,0),0),((128,1),1),((128,2),2)],
 one:=[],
 inp:=[22,23,33,39,45,86,112,214],
 elem:=[(22,59),(23,41),(33,3),(39,65),(45,128),(86,89),(112,33),(214,5)] }
def aB:TabOk prog bF.tab:=TabL.ok Φ
def LP:TabOk prog LQ.tab:=TabL.ok Φ
variable{C:Type}
def qk (m:Bool)(K:Bool→Option C)(id:Int):Option C:=let a:Bool:=cond (id>1048576) (id<34603008) false;nq m [2,1] (id>1048576) (nm m 1 a (!(1048576:Int)=0) (nq m [2,1] a (K (cond a (!Int.tmod id 1048576=0) false))))
def b8 (id:Int):Option Bool:=qk false some id
def eJ:Ent:=evE (.cons tInt .unit) aa (zero .bool) λx=>b8 x.1
def ql:Par:=⟨bF.tab,aE [],λ_=>look [],λ_=>look []⟩
def fY:ai prog 153 (eJ):=evX func153 (S:=ql) aB (af trivial) (tys:=[.bool]) (λf x=>qk true (sm aa) x.1) (λx=>by show _=Option.map aa _;simp only[qk,b8,ss])
abbrev jf (C:Type):=Str→Int→Option C
def lz (m:Bool)(K:Bool→Option C)(g:jf C):jf C:=λf i=>let b:Bool:=!ixs f i<97;let a:=bd i f.length;cond (i<il f) (ck a (nm m 2 b a (nq m [2,0] b (cond (cond (ixs f i<97) true (ixs f i>122)) (K false) (fz m tInt (w64 (i+1)) (λj=>g f j)))))) (K true)
def t8 (m:Bool)(K:Bool→Option C)(g:jf C)(f:Str):Option C:=let c:Bool:=il f>60;let b:=w64 (il f-1);let a:Bool:=!cond (il f<1) true c;nq m [2,2,0] (!il f<1) (nq m [2,2] a (nm m 2 a (bd b f.length) (nq m [2,0] a (cond (cond (cond (il f<1) true c) true (ixs f b=97)) (K false) (g f 0)))))
def mZ:Nat→jf Bool:=lp (λ_ _=>none) λf=>lz false some f
def lA (f:Str):Option Bool:=t8 false some (mZ FU) f
def G3:Ent:=evE (.cons .str .unit) aa (zero .bool) λx=>lA x.1
def AK:MS:=⟨0,[],[(0,.dat .str),(3,.dat tInt)]⟩
def G4:Par:=⟨bF.tab,aE [],λ_=>look [],λ_=>look [(4,AK)]⟩
def iB:KT:=bw bF.tab [.tmp 2] [.bool]
def h12 (S:Par)(f:Func)(g j:Nat)(p:List Nat):Sg→KT→Option AV:=xc (bN fi0 hs0 g 0) S j g (sub (f.body.getD .skip) p)
def G5:=h12 G4 f305
def mY (f n:Nat):jf AV:=λg i=>aW 0 AK (G5 f 0 [1,1,0,1,0,0]) (am 0 (bc 0 none (G5 f 0 [1,1,1]) iB)) n ⟨mkE 36 [(0,.val .str g),(3,.val tInt i)],mkH 0 []⟩
def LA (f g:Nat):mY f (g+1)=lz true (sm aa) (mY f g):=Φ
def LB:∀n,mY FU n=mp2 aa (mZ n):=co Φ λf _ h=>(LA FU f).trans (by rw[h];funext _ _;simp only[lz,ss])
def Ue:ai prog 305 (G3):=evX func305 (S:=G4) aB (af trivial) (tys:=[.bool]) (λf x=>t8 true (sm aa) (mY f f) x.1) (λx=>by show _=Option.map aa _;rw[LB FU];simp only[t8,lA,ss])
def nx (m:Bool)(K:Bool→Option C)(a:tCell.den)(b:tCell.den):Option C:=nq m [2,2,3,1] (a.1=b.1) (K (cond (a.1=b.1) (decide (a.2.1=b.2.1)) false))
def fy (a:tCell.den)(b:tCell.den):Option Bool:=nx false some a b
def AZ:Ent:=evE (.cons tCell (.cons tCell .unit)) aa (zero .bool) λx=>fy x.1 x.2.1
def Mv:ai prog 138 (AZ):=evX func138 (S:=ql) aB (af trivial) (tys:=[.bool]) (λf x=>nx true (sm aa) x.1 x.2.1) (λx=>by show _=Option.map aa _;simp only[nx,fy,ss])
def zC (m:Bool)(K:Bool→Option C)(a:tCell.den)(b:tCell.den):Option C:=cond (!a.1=b.1) (K (decide (a.1<b.1))) (K (decide (a.2.1<b.2.1)))
def iX (a:tCell.den)(b:tCell.den):Option Bool:=zC false some a b
def FK:Ent:=evE (.cons tCell (.cons tCell .unit)) aa (zero .bool) λx=>iX x.1 x.2.1
def Pb:ai prog 137 (FK):=evX func137 (S:=ql) aB (af trivial) (tys:=[.bool]) (λf x=>zC true (sm aa) x.1 x.2.1) (λx=>by show _=Option.map aa _;simp only[zC,iX,ss])
abbrev bB:=Υ
abbrev uy (C:Type):=Υ→Int→Υ→Int→Option C
abbrev acl (C:Type):=Υ→Int→Int→Υ→Option C
def D3 (m:Bool)(K:bB→Option C)(f:uy C):acl C:=λl id i out=>fz m tInt (w64 (i+1)) λg=>f l id out g
def D0 (m:Bool)(K:bB→Option C)(f:uy C):uy C:=λl id out i=>let a:=bd i l.length;cond (i<il l) (ck a (cond ((ix tCell l i).1=id) (ck a (ck (lm (List.length out+List.length ([ix tCell l i]:List tCell.den))) (fz m (.slice tCell) (out++[ix tCell l i]) (λg=>D3 m K f l id i g)))) (D3 m K f l id i out))) (K out)
def SI (m:Bool)(K:bB→Option C)(f:uy C)(l:Υ)(id:Int):Option C:=f l id [] 0
def Ca:Nat→uy bB:=lp (λ_ _ _ _=>none) λf=>D0 false some f
def D4 (l:Υ)(id:Int):Option bB:=SI false some (Ca FU) l id
def bH (r:bB):AV :=.val (.slice tCell) r
def ad5:Ent:=evE (.cons (.slice tCell) (.cons tInt .unit)) bH (zero (.slice tCell)) λx=>D4 x.1 x.2.1
def J9:MS:=⟨0,[],[(0,.dat (.slice tCell)),(1,.dat tInt),(5,.own tCell 65),(6,.dat tInt)]⟩
def ad6:Par:=⟨bF.tab,aE [],λ_=>look [(4,J9)],λ_=>look [(3,J9)]⟩
def Yv:KT:=bw bF.tab [.tmp 4] [(.slice tCell)]
def ad7:=h12 ad6 f152
def B9 (f n:Nat):uy AV:=λl id out i=>aW 0 J9 (ad7 f 0 [1,1,0,1,0,0]) (am 0 (bc 0 none (ad7 f 0 [1,1,1]) Yv)) n ⟨mkE 28 [(0,.val (.slice tCell) l),(1,.val tInt id),(5,.own 0 0 tCell out),(6,.val tInt i)],mkH 1 [(0,.row tCell 65 0)]⟩
def acm (f g:Nat):B9 f (g+1)=D0 true (sm bH) (B9 f g):=Φ
def acn:∀n,B9 FU n=mp4 bH (Ca n):=co Φ λf _ h=>(acm FU f).trans (by rw[h];funext _ _ _ _;simp only[D0,D3,ss])
def ag1:ai prog 152 (ad5):=evX func152 (S:=ad6) aB (af trivial) (tys:=[(.slice tCell)]) (λf x=>SI true (sm bH) (B9 f f) x.1 x.2.1) (λx=>by show _=Option.map bH _;rw[acn FU];simp only[SI,D4,D3,ss])
abbrev br (C:Type):=Υ→Int→Option C
def adP (g:tCell.den)(f:tCell.den):Bool:=(iX g f).isSome
def adQ (g:tCell.den)(f:tCell.den):Bool:=(iX g f).getD (zero .bool)
def lh (m:Bool)(K:Bool→Option C)(j:br C):br C:=λl i=>let h:=w64 (i-1);let g:=ix tCell l h;let e:=bd i l.length;let b:=ix tCell l i;cond (i<il l) (ck e (cl m .bool (b8 b.1) (λr1=>let f:Bool:=!cond (!r1) true (b.2.1<1);let c:=cond (!r1) true (b.2.1<1);let d:Bool:=!cond c true (b.2.1≥48);let a:Bool:=!cond c true (b.2.1≥48)&&i>0;nm m 2 (!!r1) e (nq m [2,2,2,0] (!!r1) (nm m 2 f e (nq m [2,2,2,0] f (nq m [2,2] d (nq m [2] a (nm m 2 a (bd h l.length) (nq m [2] a (nm m 2 a e (nq m [2] a (nm m 2 a (adP g b) (nq m [2] a (nm m 0 d (ii a&&true) (nq m [0] d (cond (cond (cond c true (b.2.1≥48)) true (cond (i>0) (!adQ g b) false)) (K false) (fz m tInt (w64 (i+1)) (λp=>j l p))))))))))))))))))) (K true)
def tT (m:Bool)(K:Bool→Option C)(f:br C)(l:Υ):Option C:=f l 0
def mO:Nat→br Bool:=lp (λ_ _=>none) λf=>lh false some f
def lj (l:Υ):Option Bool:=tT false some (mO FU) l
def GU:Ent:=evE (.cons (.slice tCell) .unit) aa (zero .bool) λx=>lj x.1
def gq:MS:=⟨0,[],[(0,.dat (.slice tCell)),(3,.dat tInt)]⟩
def GV:Par:=⟨bF.tab,aE [(153,eJ),(137,FK)],λ_=>look [],λ_=>look [(2,gq)]⟩
def GW:=h12 GV f353
def mN (f n:Nat):br AV:=λl i=>aW 0 gq (GW f 0 [1,0,1,0,0]) (am 0 (bc 0 none (GW f 0 [1,1]) iB)) n ⟨mkE 50 [(0,.val (.slice tCell) l),(3,.val tInt i)],mkH 0 []⟩
def Le (f g:Nat):mN f (g+1)=lh true (sm aa) (mN f g):=Φ
def Lg:∀n,mN FU n=mp2 aa (mO n):=co Φ λf _ h=>(Le FU f).trans (by rw[h];funext _ _;simp only[lh,ss])
def T6:ai prog 353 (GU):=evX func353 (S:=GV) aB (af ⟨fY,Pb,ans⟩) (tys:=[.bool]) (λf x=>tT true (sm aa) (mN f f) x.1) (λx=>by show _=Option.map aa _;rw[Lg FU];simp only[tT,lj,ss])
def lu (m:Bool)(K:Bool→Option C)(f:br C):br C:=λl i=>cond (i<il l) (ck (bd i l.length) (cond (eqD aM (ix tCell l i).2.2.1 (0,false,[],0,())) (K false) (fz m tInt (w64 (i+1)) (λg=>f l g)))) (cl m .bool (lj l) (λr1=>K r1))
def tZ (m:Bool)(K:Bool→Option C)(f:br C)(l:Υ):Option C:=f l 0
def mX:Nat→br Bool:=lp (λ_ _=>none) λf=>lu false some f
def ly (l:Υ):Option Bool:=tZ false some (mX FU) l
def G0:Ent:=evE (.cons (.slice tCell) .unit) aa (zero .bool) λx=>ly x.1
def G1:Par:=⟨bF.tab,aE [(353,GU)],λ_=>look [],λ_=>look [(2,gq)]⟩
def G2:=h12 G1 f303
def mW (f n:Nat):br AV:=λl i=>aW 0 gq (G2 f 0 [1,0,1,0,0]) (am 0 (bc 0 none (G2 f 0 [1,1]) iB)) n ⟨mkE 19 [(0,.val (.slice tCell) l),(3,.val tInt i)],mkH 0 []⟩
def Lx (f g:Nat):mW f (g+1)=lu true (sm aa) (mW f g):=Φ
def Ly:∀n,mW FU n=mp2 aa (mX n):=co Φ λf _ h=>(Lx FU f).trans (by rw[h];funext _ _;simp only[lu,ss])
def Ud:ai prog 303 (G0):=evX func303 (S:=G1) aB (af ⟨T6,ans⟩) (tys:=[.bool]) (λf x=>tZ true (sm aa) (mW f f) x.1) (λx=>by show _=Option.map aa _;rw[Ly FU];simp only[tZ,ly,ss])
abbrev ll (C:Type):=aN.den→Int→Int→Int→Int→Option C
def Dn (g:tCell.den)(f:tCell.den):Bool:=(fy g f).isSome
def P2 (g:tCell.den)(f:tCell.den):Bool:=(fy g f).getD (zero .bool)
def oM (m:Bool)(K:aM.den→Option C)(j:ll C):ll C:=λf id field g r=>let c:=bd g f.1.length;let b:=ix tCell f.1 g;let a:=Int.tdiv (w64 (g+r)) 2;let d:=w64 a;cond (g<r) (ck (!(2:Int)=0) (ck (bd d f.1.length) (cl m .bool (iX (ix tCell f.1 d) (id,field,(0,false,[],0,()),())) (λr1=>cond r1 (fz m tInt (w64 (w64 a+1)) (λp=>j f id field p r)) (fz m tInt d (λl=>j f id field g l)))))) (nq m [2] (g<il f.1) (nm m 2 (g<il f.1) c (nq m [2] (g<il f.1) (nm m 2 (g<il f.1) (Dn b (id,field,(0,false,[],0,()),())) (nq m [1] (g<il f.1) (cond (cond (g<il f.1) (P2 b (id,field,(0,false,[],0,()),())) false) (ck c (K b.2.2.1)) (K (0,false,[],0,()))))))))
def xp (m:Bool)(K:aM.den→Option C)(f:ll C)(j:aN.den)(id:Int)(field:Int):Option C:=fz m tInt (il j.1) λg=>f j id field 0 g
def qj:Nat→ll aM.den:=lp (λ_ _ _ _ _=>none) λf=>oM false some f
def tY (f:aN.den)(id:Int)(field:Int):Option aM.den:=xp false some (qj FU) f id field
def cX (r:aM.den):AV :=.val aM r
def Lt:Ent:=evE (.cons aN (.cons tInt (.cons tInt .unit))) cX (zero aM) λx=>tY x.1 x.2.1 x.2.2.1
def CL:MS:=⟨6,[(0,[.dat (.slice tCell)]),(1,[.dat tInt,.dat .bool,.dat .str,.dat tInt]),(5,[.dat tInt,.dat tInt,.dat tInt,.dat .bool,.dat .str,.dat tInt])],[(3,.keep),(6,.keep),(7,.keep),(8,.dat tInt),(9,.dat tInt)]⟩
def Lu:Par:=⟨bF.tab,aE [(137,FK),(138,AZ)],λ_=>look [],λ_=>look [(3,CL)]⟩
def WW:KT:=bw bF.tab [.cell 6 36] [aM]
def Lv:=h12 Lu f77
def qi (f n:Nat):ll AV:=λg id field j l=>aW 0 CL (Lv f 0 [1,1,1,0,0,0]) (am 0 (bc 0 none (Lv f 0 [1,1,1,1]) WW)) n ⟨mkE 55 [(3,.box 0 0),(6,.box 1 0),(7,.box 5 0),(8,.val tInt j),(9,.val tInt l)],mkH 6 [(0,.box [.val (.slice tCell) g.1]),(1,.box [.val tInt (0:Int),.val .bool false,.val .str [],.val tInt (0:Int)]),(5,.box [.val tInt id,.val tInt field,.val tInt (0:Int),.val .bool false,.val .str [],.val tInt (0:Int)])]⟩
def Pl (f g:Nat):qi f (g+1)=oM true (sm cX) (qi f g):=Φ
def Pm:∀n,qi FU n=mp5 cX (qj n):=co Φ λf _ h=>(Pl FU f).trans (by rw[h];funext _ _ _ _ _;simp only[oM,ss])
def WV:ai prog 77 (Lt):=evX func77 (S:=Lu) aB (af ⟨Pb,Mv,ans⟩) (tys:=[aM]) (λf x=>xp true (sm cX) (qi f f) x.1 x.2.1 x.2.2.1) (λx=>by show _=Option.map cX _;rw[Pm FU];simp only[xp,tY,ss])
def KB (m:Bool)(K:aM.den→Option C)(f:aN.den)(id:Int)(field:Int):Option C:=cl m aM (tY f id field) λr1=>K r1
def yS (f:aN.den)(id:Int)(field:Int):Option aM.den:=KB false some f id field
def Za:Ent:=evE (.cons aN (.cons tInt (.cons tInt .unit))) cX (zero aM) λx=>yS x.1 x.2.1 x.2.2.1
def afz:Par:=⟨bF.tab,aE [(77,Lt)],λ_=>look [],λ_=>look []⟩
def afy:ai prog 304 (Za):=evX func304 (S:=afz) aB (af ⟨WV,ans⟩) (tys:=[aM]) (λf x=>KB true (sm cX) x.1 x.2.1 x.2.2.1) (λx=>by show _=Option.map cX _;simp only[KB,yS,ss])
abbrev kV (C:Type):=aN.den→(List Int)→Int→Option C
abbrev VV (C:Type):=Int→aN.den→(List Int)→Option C
def tc (m:Bool)(K:(List Int)→Option C)(f:kV C):VV C:=λi j l=>fz m tInt (w64 (i+1)) λg=>f j l g
def ta (m:Bool)(K:(List Int)→Option C)(f:kV C):kV C:=λg l i=>let d:=w64 (i-1);let c:=bd i g.1.length;let b:Bool:=!i=0;let a:=ix tCell g.1 i;cond (i<il g.1) (nq m [2] b (nm m 2 b c (nq m [2,2,2,2] b (nm m 2 b (bd d g.1.length) (nq m [2,2,3,0] b (cond (cond (i=0) true (! a.1=(ix tCell g.1 d).1)) (ck c (ck (lm (List.length l+List.length ([a.1]:List Int))) (fz m (.slice tInt) (l++[a.1]) (λj=>tc m K f i g j)))) (tc m K f i g l))))))) (K l)
def Cj (m:Bool)(K:(List Int)→Option C)(f:kV C)(g:aN.den):Option C:=f g [] 0
def uR:Nat→kV (List Int):=lp (λ_ _ _=>none) λf=>ta false some f
def td (f:aN.den):Option (List Int):=Cj false some (uR FU) f
def ar (r:(List Int)):AV :=.val (.slice tInt) r
def Tf:Ent:=evE (.cons aN .unit) ar (zero (.slice tInt)) λx=>td x.1
def Ah:MS:=⟨1,[(0,[.dat (.slice tCell)])],[(1,.keep),(3,.own tInt 3),(4,.dat tInt)]⟩
def Tg:Par:=⟨bF.tab,aE [],λ_=>look [(4,Ah)],λ_=>look [(3,Ah)]⟩
def Kr:KT:=bw bF.tab [.tmp 2] [(.slice tInt)]
def Th:=h12 Tg f231
def uQ (f n:Nat):kV AV:=λg l i=>aW 0 Ah (Th f 0 [1,1,0,1,0,0]) (am 0 (bc 0 none (Th f 0 [1,1,1]) Kr)) n ⟨mkE 40 [(1,.box 0 0),(3,.own 1 0 tInt l),(4,.val tInt i)],mkH 2 [(0,.box [.val (.slice tCell) g.1]),(1,.row tInt 3 0)]⟩
def VW (f g:Nat):uQ f (g+1)=ta true (sm ar) (uQ f g):=Φ
def VX:∀n,uQ FU n=mp3 ar (uR n):=co Φ λf _ h=>(VW FU f).trans (by rw[h];funext _ _ _;simp only[ta,tc,ss])
def acH:ai prog 231 (Tf):=evX func231 (S:=Tg) aB (af trivial) (tys:=[(.slice tInt)]) (λf x=>Cj true (sm ar) (uQ f f) x.1) (λx=>by show _=Option.map ar _;rw[VX FU];simp only[Cj,td,tc,ss])
def oN (f:Int):Bool:=(b8 f).isSome
def gw (f:Int):Bool:=(b8 f).getD (zero .bool)
def qx (m:Bool)(K:Bool→Option C)(v:aM.den):Option C:=let j:=decide (v.1<5);let i:=K false;let h:=decide (v.1=12);let f:Bool:=!decide (v.1=16);let e:=bif h then true else(decide (v.1=16));let d:=decide (v.2.2.2.1=0);let c:Bool:=!decide (v.2.2.2.1=0);let b:=bif e then true else(decide (v.1=9));let g:=bif c then(! b)else false;let a:=bif j then true else(decide (v.1>22));(nq m [2,2,0] (! j) (nq m [2,2,2] (! a) (nq m [2] ((! a)&&c) (nm m 1 ((! a)&&c) (oN (v.2.2.2.1)) (nq m [2] ((! a)&&c) (nm m 0 (! a) ((ii ((! a)&&c))&&true) (nq m [0] (! a) (bif (bif a then true else(bif c then(!(gw (v.2.2.2.1)))else false))then i else(nq m [2,2,0] (! h) (nq m [2,2,0] (! e) (nq m [2,1] c (nq m [2,2,1] g (bif (bif g then(!decide (v.1=17))else false)then i else(nq m [2,2,2] (v.2.1) (nq m [2,2,2] (v.2.1&&(! d)) (nq m [2,2] ((v.2.1&&(! d))&&f) (nm m 0 (v.2.1&&(! d)) ((ii ((v.2.1&&(! d))&&f))&&true) (nm m 0 (v.2.1) (ii (v.2.1&&(! d))) (nq m [1] (v.2.1) (bif (bif v.2.1 then(bif d then true else(bif f then(!decide (v.1=9))else false))else false)then i else(nq m [2,2,1] b (bif (bif b then c else false)then(K (decide (v.2.2.1=[])))else(cl m .bool (gR (v.1) (v.2.2.1)) λr1=>(K r1))))))))))))))))))))))))
def jo (v:aM.den):Option Bool:=qx false some v
def C5:Ent:=evE (.cons aM .unit) aa (zero .bool) λx=>jo x.1
def PK:Par:=⟨bF.tab,aE [(153,eJ),(339,AO)],λ_=>look [],λ_=>look []⟩
def PJ:ai prog 307 (C5):=evX func307 (S:=PK) aB (af ⟨fY,LN,ans⟩) (tys:=[.bool]) (λf x=>qx true (sm aa) x.1) (λx=>by show _=Option.map aa _;simp only[qx,jo,ss])
def W5 (g:Str)(f:Bool):Bool:=(iC g f).isSome
def W6 (g:Str)(f:Bool):Bool:=(iC g f).getD (zero .bool)
def uV (m:Bool)(K:Bool→Option C)(g:Int)(field:Int)(v:aM.den):Option C:=let f:=K false;let e:=cond (v.1<0) true (v.1>3);let d:Bool:=cond (g=1) (decide (field=10)) false;let c:Bool:=eqD aM v (0,false,v.2.2.1,0,())&&g=1;let b:Bool:=!cond e true v.2.1;let a:=eqD aM v (0,false,v.2.2.1,0,());cond (eqD aM v (0,false,[],0,())) (K true) (nq m [2,0] (!g<1) (cond (cond (g<1) true (g>5)) f (cond (field=1) (K (eqD aM v (g,false,[],0,()))) (nq m [2,1] (field=2) (cond (cond (field=2) (g=1) false) (K (eqD aM v (1,false,[],0,()))) (cond (field=2) (nq m [2,2,0] (!v.1<0) (nq m [2,0] (!cond (v.1<0) true (v.1>3)) (nq m [2] b (nm m 1 b (oN v.2.2.2.1) (nq m [2,0] b (cond (cond (cond e true v.2.1) true (!gw v.2.2.2.1)) f (cond (v.1=0) (cl m .bool (lA v.2.2.1) (λr1=>K r1)) (K (decide (v.2.2.1=[])))))))))) (nq m [2,1] (field=3) (cond (cond (field=3) (!g=5) false) (cl m tInt (kZ v.2.2.1) (λr2=>cond (!eqD aM v (0,false,v.2.2.1,0,())) f (nq m [2,0] (!g=1) (cond (cond (g=1) true (g=3)) (K (decide (r2=2))) (K (decide (r2=1))))))) (nq m [2,1] (field=4) (cond (cond (field=4) (g=5) false) (cl m .bool (jo v) (λr3=>K r3)) (nq m [2,1] (field≥8) (cond (cond (field≥8) (field<48) false) (nq m [2,2,2] a (nq m [2] c (nm m 0 a (ii c&&true) (nm m 2 a (W5 v.2.2.1 d) (nq m [1] a (K (cond a (W6 v.2.2.1 d) false))))))) f))))))))))))
def iR (f:Int)(field:Int)(v:aM.den):Option Bool:=uV false some f field v
def Al:Ent:=evE (.cons tInt (.cons tInt (.cons aM .unit))) aa (zero .bool) λx=>iR x.1 x.2.1 x.2.2.1
def V4:Par:=⟨bF.tab,aE [(153,eJ),(305,G3),(306,Fr),(307,C5),(308,G8)],λ_=>look [],λ_=>look []⟩
def Ih:ai prog 233 (Al):=evX func233 (S:=V4) aB (af ⟨fY,Ue,OV,PJ,Uj,ans⟩) (tys:=[.bool]) (λf x=>uV true (sm aa) x.1 x.2.1 x.2.2.1) (λx=>by show _=Option.map aa _;simp only[uV,iR,ss])
abbrev f9 (C:Type):=aN.den→Int→Bool→Bool→Int→Option C
abbrev AS (C:Type):=aN.den→Int→Int→Bool→Bool→Option C
def o8 (m:Bool)(K:Bool→Option C)(j:f9 C):AS C:=λp i g named f=>fz m tInt (w64 (i+1)) λl=>j p g named f l
def iE (m:Bool)(K:Bool→Option C)(r:f9 C):AS C:=λR i l named p=>let k:=w64 (i+1);let j:=il R.1-1;let d:=bd i R.1.length;let c:Bool:=!i=w64 j;let b:=ix tCell R.1 i;let g:=cond named true (decide (b.2.1=3));let f:=cond p true (decide (b.2.1=4));let a:Bool:=!cond p true (b.2.1=4);let h:Bool:=!cond (l=5) a false&&!l=5;let e:Bool:=!cond (l=5) a false;ck d (ck d (cl m .bool (iR l b.2.1 b.2.2.1) (λr2=>cond (!r2) (K false) (nm m 2 (!named) d (nq m [2,2,2,0] (!named) (nm m 2 (!p) d (nq m [2,2,2,0] (!p) (nq m [2] c (nm m 2 c (bd k R.1.length) (nq m [2,2] c (nm m 2 c d (nq m [2,2,3,0] c (cond (cond (i=w64 j) true (!(ix tCell R.1 k).1=b.1)) (nq m [2,1] (l=5) (nq m [2,2] e (nq m [2] h (nm m 0 e (ii h&&true) (nq m [0] e (cond (cond (cond (l=5) a false) true (cond (!l=5) (!cond named true (b.2.1=3)) false)) (K false) (fz m .bool g (λP=>fz m .bool f λJ=>o8 m K r R i l P J)))))))) (fz m .bool g (λP=>fz m .bool f λJ=>o8 m K r R i l P J)))))))))))))))
def o7 (m:Bool)(K:Bool→Option C)(g:f9 C):f9 C:=λj l named f i=>let d:=w64 (i-1);let c:Bool:=!i=0;let b:=ix tCell j.1 i;let a:=bd i j.1.length;cond (i<il j.1) (nm m 2 c a (nq m [2,2,2] c (nm m 2 c (bd d j.1.length) (nq m [2,2,3,0] c (cond (cond (i=0) true (! b.1=(ix tCell j.1 d).1)) (ck a (cond (! b.2.1=1) (K false) (ck a (fz m tInt b.2.2.1.1 (λp=>iE m K g j i p false false))))) (iE m K g j i l named f)))))) (K true)
def xG (m:Bool)(K:Bool→Option C)(f:f9 C)(g:aN.den):Option C:=cl m .bool (ly g.1) λr1=>cond (!r1) (K false) (f g 0 false false 0)
def lH:Nat→f9 Bool:=lp (λ_ _ _ _ _=>none) λf=>o7 false some f
def o9 (f:aN.den):Option Bool:=xG false some (lH FU) f
def LV:Ent:=evE (.cons aN .unit) aa (zero .bool) λx=>o9 x.1
def qq:MS:=⟨0,[],[(3,.dat (.slice tCell)),(4,.dat tInt),(5,.dat .bool),(6,.dat .bool),(7,.dat tInt)]⟩
def LW:Par:=⟨bF.tab,aE [(303,G0),(233,Al)],λ_=>look [(12,qq),(7,qq)],λ_=>look [(6,qq)]⟩
def LX:=h12 LW f230
def qs (g n:Nat):f9 AV:=λl j named f i=>aW 0 qq (LX g 0 [1,1,1,1,0,1,0,0]) (am 0 (bc 0 none (LX g 0 [1,1,1,1,1]) iB)) n ⟨mkE 111 [(3,.val (.slice tCell) l.1),(4,.val tInt j),(5,.val .bool named),(6,.val .bool f),(7,.val tInt i)],mkH 0 []⟩
def Py (f g:Nat):qs f (g+1)=o7 true (sm aa) (qs f g):=Φ
def Pz:∀n,qs FU n=mp5 aa (lH n):=co Φ λf _ h=>(Py FU f).trans (by rw[h];funext _ _ _ _ _;simp only[o7,iE,o8,ss])
def Xo:ai prog 230 (LV):=evX func230 (S:=LW) aB (af ⟨Ud,Ih,ans⟩) (tys:=[.bool]) (λf x=>xG true (sm aa) (qs f f) x.1) (λx=>by show _=Option.map aa _;rw[Pz FU];simp only[xG,o9,iE,o8,ss])
abbrev hZ (C:Type):=Int→Int→aN.den→Int→Int→Option C
def jy (m:Bool)(K:Bool→Option C)(g:hZ C):hZ C:=λl f p id i=>cond (i<f) (cl m aM (yS p id 2) (λr1=>cond (r1.2.2.2.1=l) (K true) (cond (r1.2.2.2.1=0) (K false) (fz m tInt (w64 (i+1)) (λj=>g l f p r1.2.2.2.1 j))))) (K false)
def qD (m:Bool)(K:Bool→Option C)(g:hZ C)(l:aN.den)(id:Int)(j:Int)(f:Int):Option C:=g j f l id 0
def kz:Nat→hZ Bool:=lp (λ_ _ _ _ _=>none) λf=>jy false some f
def gy (j:aN.den)(id:Int)(g:Int)(f:Int):Option Bool:=qD false some (kz FU) j id g f
def Ds:Ent:=evE (.cons aN (.cons tInt (.cons tInt (.cons tInt .unit)))) aa (zero .bool) λx=>gy x.1 x.2.1 x.2.2.1 x.2.2.2.1
def xS:MS:=⟨1,[(0,[.dat (.slice tCell)])],[(1,.dat tInt),(2,.dat tInt),(3,.dat tInt),(4,.keep),(9,.dat tInt)]⟩
def Dt:Par:=⟨bF.tab,aE [(304,Za)],λ_=>look [],λ_=>look [(2,xS)]⟩
def P7:KT:=bw bF.tab [.tmp 8] [.bool]
def Du:=h12 Dt f232
def ky (f n:Nat):hZ AV:=λj g l id i=>aW 0 xS (Du f 0 [1,0,1,0,0]) (am 0 (bc 0 none (Du f 0 [1,1]) P7)) n ⟨mkE 24 [(1,.val tInt id),(2,.val tInt j),(3,.val tInt g),(4,.box 0 0),(9,.val tInt i)],mkH 1 [(0,.box [.val (.slice tCell) l.1])]⟩
def JC (f g:Nat):ky f (g+1)=jy true (sm aa) (ky f g):=Φ
def JD:∀n,ky FU n=mp5 aa (kz n):=co Φ λf _ h=>(JC FU f).trans (by rw[h];funext _ _ _ _ _;simp only[jy,ss])
def P6:ai prog 232 (Ds):=evX func232 (S:=Dt) aB (af ⟨afy,ans⟩) (tys:=[.bool]) (λf x=>qD true (sm aa) (ky f f) x.1 x.2.1 x.2.2.1 x.2.2.2.1) (λx=>by show _=Option.map aa _;rw[JD FU];simp only[qD,gy,ss])
abbrev gI (C:Type):=Int→(List Int)→aN.den→(List Int)→Int→Option C
abbrev O3 (C:Type):=Int→(List Int)→Int→aN.den→(List Int)→Option C
def mC (m:Bool)(K:(List Int)→Option C)(f:gI C):O3 C:=λid r2 i j out=>fz m tInt (w64 (i+1)) λg=>f id r2 j out g
def Hw (l:aN.den)(j:Int)(g:Int)(f:Int):Bool:=(gy l j g f).isSome
def UU (l:aN.den)(j:Int)(g:Int)(f:Int):Bool:=(gy l j g f).getD (zero .bool)
def mB (m:Bool)(K:(List Int)→Option C)(f:gI C):gI C:=λid r2 g out i=>let d:=ix tInt r2 i;let c:=w64 (il r2+1);let b:=bd i r2.length;let a:Bool:=!ix tInt r2 i=id;cond (i<il r2) (ck b (nm m 2 a b (nq m [2,2,2] a (ck (ii a&&(ii a&&(ii a&&(ii a&&true)))&&be a (Hw g d id c)) (nq m [1] a (cond (cond a (UU g d id c) false) (ck b (ck (lm (List.length out+List.length ([ix tInt r2 i]:List Int))) (fz m (.slice tInt) (out++[ix tInt r2 i]) (λj=>mC m K f id r2 i g j)))) (mC m K f id r2 i g out))))))) (K out)
def vf (m:Bool)(K:(List Int)→Option C)(f:gI C)(g:aN.den)(id:Int):Option C:=cl m .bool (o9 g) λr1=>nm m 1 (!!r1) (oN id) (nq m [2,0] (!!r1) (cond (cond (!r1) true (!gw id)) (K []) (cl m (.slice tInt) (td g) (λr2=>f id r2 g [] 0))))
def nV:Nat→gI (List Int):=lp (λ_ _ _ _ _=>none) λf=>mB false some f
def mD (f:aN.den)(id:Int):Option (List Int):=vf false some (nV FU) f id
def IF:Ent:=evE (.cons aN (.cons tInt .unit)) ar (zero (.slice tInt)) λx=>mD x.1 x.2.1
def tK:MS:=⟨1,[(0,[.dat (.slice tCell)])],[(1,.dat tInt),(2,.keep),(5,.own tInt 3),(6,.dat (.slice tInt)),(7,.dat tInt)]⟩
def IG:Par:=⟨bF.tab,aE [(230,LV),(153,eJ),(231,Tf),(232,Ds)],λ_=>look [(7,tK)],λ_=>look [(6,tK)]⟩
def vg:KT:=bw bF.tab [.tmp 4] [(.slice tInt)]
def IH:=h12 IG f151
def nU (f n:Nat):gI AV:=λid r2 g out i=>aW 0 tK (IH f 0 [1,1,1,1,0,1,0,0]) (am 0 (bc 0 none (IH f 0 [1,1,1,1,1]) vg)) n ⟨mkE 50 [(1,.val tInt id),(2,.box 0 0),(5,.own 1 0 tInt out),(6,.val (.slice tInt) r2),(7,.val tInt i)],mkH 2 [(0,.box [.val (.slice tCell) g.1]),(1,.row tInt 3 0)]⟩
def O4 (f g:Nat):nU f (g+1)=mB true (sm ar) (nU f g):=Φ
def O5:∀n,nU FU n=mp5 ar (nV n):=co Φ λf _ h=>(O4 FU f).trans (by rw[h];funext _ _ _ _ _;simp only[mB,mC,ss])
def Ws:ai prog 151 (IF):=evX func151 (S:=IG) aB (af ⟨Xo,fY,acH,P6,ans⟩) (tys:=[(.slice tInt)]) (λf x=>vf true (sm ar) (nU f f) x.1 x.2.1) (λx=>by show _=Option.map ar _;rw[O5 FU];simp only[vf,mD,mC,ss])
abbrev fR (C:Type):=(List Int)→Int→Int→Option C
def yP (m:Bool)(K:Bool→Option C)(f:fR C):fR C:=λl x i=>cond (i<il l) (ck (bd i l.length) (cond (ix tInt l i=x) (K true) (fz m tInt (w64 (i+1)) (λg=>f l x g)))) (K false)
def Ky (m:Bool)(K:Bool→Option C)(f:fR C)(l:(List Int))(x:Int):Option C:=f l x 0
def yO:Nat→fR Bool:=lp (λ_ _ _=>none) λf=>yP false some f
def nK (l:(List Int))(x:Int):Option Bool:=Ky false some (yO FU) l x
def tf:Ent:=evE (.cons (.slice tInt) (.cons tInt .unit)) aa (zero .bool) λx=>nK x.1 x.2.1
def EI:MS:=⟨0,[],[(0,.dat (.slice tInt)),(1,.dat tInt),(5,.dat tInt)]⟩
def Kz:Par:=⟨bF.tab,aE [],λ_=>look [],λ_=>look [(2,EI)]⟩
def afw:KT:=bw bF.tab [.tmp 4] [.bool]
def Y8:=h12 Kz f21
def yN (f n:Nat):fR AV:=λl x i=>aW 0 EI (Y8 f 0 [1,0,1,0,0]) (am 0 (bc 0 none (Y8 f 0 [1,1]) afw)) n ⟨mkE 18 [(0,.val (.slice tInt) l),(1,.val tInt x),(5,.val tInt i)],mkH 0 []⟩
def Y6 (f g:Nat):yN f (g+1)=yP true (sm aa) (yN f g):=Φ
def Y7:∀n,yN FU n=mp3 aa (yO n):=co Φ λf _ h=>(Y6 FU f).trans (by rw[h];funext _ _ _;simp only[yP,ss])
def wS:ai prog 21 (tf):=evX func21 (S:=Kz) aB (af trivial) (tys:=[.bool]) (λf x=>Ky true (sm aa) (yN f f) x.1 x.2.1) (λx=>by show _=Option.map aa _;rw[Y7 FU];simp only[Ky,nK,ss])
def xW (m:Bool)(K:(List Int)→Option C)(g:fR C):fR C:=λl x f=>let d:=Int.toNat f;let c:=List.take (List.length l) l;let b:=w64 (f-1);let e:=bd b l.length;let a:=List.take d l;nq m [2] (f>0) (nm m 2 (f>0) e (nq m [2,3,1] (f>0) (cond (cond (f>0) (ix tInt l b≥x) false) (ck e (cond (ix tInt l b=x) (K l) (fz m tInt b (λj=>g l x j)))) (ck (0≤f&&f≤(l.length:Int)) (ck (lm (List.length ([]:List Int)+List.length (a.drop 0))) (ck (lm (List.length ([]++a.drop 0)+List.length ([x]:List Int))) (ck (0≤f&&f≤(l.length:Int)) (ck (lm (List.length ([]++a.drop 0++[x])+List.length (c.drop d))) (K ([]++a.drop 0++[x]++c.drop d))))))))))
def JF (m:Bool)(K:(List Int)→Option C)(f:fR C)(l:(List Int))(x:Int):Option C:=fz m tInt (il l) λg=>f l x g
def xV:Nat→fR (List Int):=lp (λ_ _ _=>none) λf=>xW false some f
def uu (l:(List Int))(x:Int):Option (List Int):=JF false some (xV FU) l x
def P9:Ent:=evE (.cons (.slice tInt) (.cons tInt .unit)) ar (zero (.slice tInt)) λx=>uu x.1 x.2.1
def X0:=h12 Kz f81
def xU (f n:Nat):fR AV:=λl x g=>aW 0 EI (X0 f 0 [1,1,0,0,0]) (am 0 (bc 0 none (X0 f 0 [1,1,1]) vg)) n ⟨mkE 44 [(0,.val (.slice tInt) l),(1,.val tInt x),(5,.val tInt g)],mkH 0 []⟩
def XY (f g:Nat):xU f (g+1)=xW true (sm ar) (xU f g):=Φ
def XZ:∀n,xU FU n=mp3 ar (xV n):=co Φ λf _ h=>(XY FU f).trans (by rw[h];funext _ _ _;simp only[xW,ss])
def XX:ai prog 81 (P9):=evX func81 (S:=Kz) aB (af trivial) (tys:=[(.slice tInt)]) (λf x=>JF true (sm ar) (xU f f) x.1 x.2.1) (λx=>by show _=Option.map ar _;rw[XZ FU];simp only[JF,uu,ss])
abbrev mb (C:Type):=(List Int)→Int→Option C
def pJ (m:Bool)(K:Bool→Option C)(f:mb C):mb C:=λl i=>let d:=w64 (i-1);let b:=bd i l.length;cond (i<il l) (ck b (cl m .bool (b8 (ix tInt l i)) (λr1=>let c:Bool:=!!r1;let a:Bool:=!!r1&&i>0;nq m [2,2] c (nm m 2 a b (nq m [2,2] a (nm m 2 a (bd d l.length) (nq m [2,3] a (nm m 0 c (ii a&&true) (nq m [0] c (cond (cond (!r1) true (cond (i>0) (ix tInt l i≤ix tInt l d) false)) (K false) (fz m tInt (w64 (i+1)) (λg=>f l g)))))))))))) (K true)
def yI (m:Bool)(K:Bool→Option C)(f:mb C)(l:(List Int)):Option C:=f l 0
def qY:Nat→mb Bool:=lp (λ_ _=>none) λf=>pJ false some f
def kW (l:(List Int)):Option Bool:=yI false some (qY FU) l
def NN:Ent:=evE (.cons (.slice tInt) .unit) aa (zero .bool) λx=>kW x.1
def ED:MS:=⟨0,[],[(0,.dat (.slice tInt)),(3,.dat tInt)]⟩
def NO:Par:=⟨bF.tab,aE [(153,eJ)],λ_=>look [],λ_=>look [(2,ED)]⟩
def NP:=h12 NO f154
def qX (f n:Nat):mb AV:=λl i=>aW 0 ED (NP f 0 [1,0,1,0,0]) (am 0 (bc 0 none (NP f 0 [1,1]) iB)) n ⟨mkE 32 [(0,.val (.slice tInt) l),(3,.val tInt i)],mkH 0 []⟩
def Q5 (f g:Nat):qX f (g+1)=pJ true (sm aa) (qX f g):=Φ
def Q6:∀n,qX FU n=mp2 aa (qY n):=co Φ λf _ h=>(Q5 FU f).trans (by rw[h];funext _ _;simp only[pJ,ss])
def Y2:ai prog 154 (NN):=evX func154 (S:=NO) aB (af ⟨fY,ans⟩) (tys:=[.bool]) (λf x=>yI true (sm aa) (qX f f) x.1) (λx=>by show _=Option.map aa _;rw[Q6 FU];simp only[yI,kW,ss])
abbrev jz (C:Type):=tCommit.den→Int→Option C
def lT (m:Bool)(K:Bool→Option C)(f:jz C):jz C:=λc i=>let b:=bd i c.2.2.2.1.length;let a:Bool:=!ixs c.2.2.2.1 i<32;cond (i<il c.2.2.2.1) (ck b (nq m [2] a (nm m 2 a b (nq m [2,0] a (cond (cond (ixs c.2.2.2.1 i<32) true (ixs c.2.2.2.1 i>126)) (K false) (fz m tInt (w64 (i+1)) (λg=>f c g))))))) (K true)
def Ti (f:(List Int)):Bool:=(kW f).isSome
def bz (f:(List Int)):Bool:=(kW f).getD (zero .bool)
def yQ (g:(List Int))(f:Int):Bool:=(nK g f).isSome
def gG (g:(List Int))(f:Int):Bool:=(nK g f).getD (zero .bool)
def uv (m:Bool)(K:Bool→Option C)(p:jz C)(c:tCommit.den):Option C:=let o:Bool:=il c.2.1>4;let n:Bool:=!bz c.2.2.1;let l:=gG c.2.1 c.1;let j:=gG c.2.2.1 c.1;let d:Bool:=il c.2.2.1>4;cl m .bool (b8 c.1) λr1=>let f:=cond (!r1) true (!bz c.2.1);let i:=cond f true n;let e:Bool:=!cond (!r1) true (!bz c.2.1);let a:=cond i true o;let k:=cond a true d;let h:Bool:=!cond a true d;let g:=cond k true l;let b:Bool:=!cond k true l;nq m [2] (!!r1) (nm m 1 (!!r1) (Ti c.2.1) (nq m [2,0] (!!r1) (nq m [2] e (nm m 1 e (Ti c.2.2.1) (nq m [2,0] e (nq m [2,2,2,0] (!cond f true n) (nq m [2,2,2,0] (!cond i true o) (nq m [2,2] h (nm m 2 h (yQ c.2.1 c.1) (nq m [0] h (nq m [2,2] b (nm m 2 b (yQ c.2.2.1 c.1) (nq m [0] b (nq m [2,2,2,0] (!cond g true j) (cond (cond (cond g true j) true (il c.2.2.2.1>80)) (K false) (p c 0))))))))))))))))
def nz:Nat→jz Bool:=lp (λ_ _=>none) λf=>lT false some f
def lU (c:tCommit.den):Option Bool:=uv false some (nz FU) c
def HB:Ent:=evE (.cons tCommit .unit) aa (zero .bool) λx=>lU x.1
def Bb:MS:=⟨1,[(0,[.dat tInt,.dat (.slice tInt),.dat (.slice tInt),.dat .str,.dat (.slice tCell)])],[(1,.keep),(3,.dat tInt)]⟩
def HC:Par:=⟨bF.tab,aE [(153,eJ),(154,NN),(21,tf)],λ_=>look [],λ_=>look [(4,Bb)]⟩
def HD:=h12 HC f106
def ny (f n:Nat):jz AV:=λc i=>aW 0 Bb (HD f 0 [1,1,0,1,0,0]) (am 0 (bc 0 none (HD f 0 [1,1,1]) iB)) n ⟨mkE 71 [(1,.box 0 0),(3,.val tInt i)],mkH 1 [(0,.box [.val tInt c.1,.val (.slice tInt) c.2.1,.val (.slice tInt) c.2.2.1,.val .str c.2.2.2.1,.val (.slice tCell) c.2.2.2.2.1])]⟩
def MI (f g:Nat):ny f (g+1)=lT true (sm aa) (ny f g):=Φ
def MJ:∀n,ny FU n=mp2 aa (nz n):=co Φ λf _ h=>(MI FU f).trans (by rw[h];funext _ _;simp only[lT,ss])
def U0:ai prog 106 (HB):=evX func106 (S:=HC) aB (af ⟨fY,Y2,wS,ans⟩) (tys:=[.bool]) (λf x=>uv true (sm aa) (ny f f) x.1) (λx=>by show _=Option.map aa _;rw[MJ FU];simp only[uv,lU,ss])
abbrev lg:=(Ty.den (.cons aM (.cons .bool .unit)))
abbrev gM (C:Type):=Υ→Int→Int→Int→Option C
def eG (m:Bool)(K:lg→Option C)(f:gM C):gM C:=λw id field i=>let b:=bd i w.length;let a:=ix tCell w i;cond (i≥0) (ck b (nm m 2 (a.1=id) b (nq m [2,2,3,1] (a.1=id) (cond (cond (a.1=id) (a.2.1=field) false) (ck b (K (a.2.2.1,true,()))) (fz m tInt (w64 (i-1)) (λg=>f w id field g)))))) (K ((0,false,[],0,()),false,()))
def k8 (m:Bool)(K:lg→Option C)(f:gM C)(w:Υ)(id:Int)(field:Int):Option C:=fz m tInt (w64 (il w-1)) λg=>f w id field g
def fh:Nat→gM lg:=lp (λ_ _ _ _=>none) λf=>eG false some f
def b7 (w:Υ)(id:Int)(field:Int):Option lg:=k8 false some (fh FU) w id field
def k9 (r:lg):AV :=.tup (dF [.val aM r.1,.val .bool r.2.1])
def la:Ent:=evE (.cons (.slice tCell) (.cons tInt (.cons tInt .unit))) k9 (zero (.cons aM (.cons .bool .unit))) λx=>b7 x.1 x.2.1 x.2.2.1
def xh:MS:=⟨1,[(0,[.dat tInt,.dat .bool,.dat .str,.dat tInt])],[(0,.dat (.slice tCell)),(1,.dat tInt),(2,.dat tInt),(6,.keep),(8,.dat tInt)]⟩
def CA:Par:=⟨bF.tab,aE [],λ_=>look [],λ_=>look [(2,xh)]⟩
def Pf:KT:=bw bF.tab [.cell 6 36,.tmp 7] [aM,.bool]
def CB:=h12 CA f17
def j4 (f n:Nat):gM AV:=λw id field i=>aW 0 xh (CB f 0 [1,0,1,0,0]) (am 0 (bc 0 none (CB f 0 [1,1]) Pf)) n ⟨mkE 38 [(0,.val (.slice tCell) w),(1,.val tInt id),(2,.val tInt field),(6,.box 0 0),(8,.val tInt i)],mkH 1 [(0,.box [.val tInt (0:Int),.val .bool false,.val .str [],.val tInt (0:Int)])]⟩
def IP (f g:Nat):j4 f (g+1)=eG true (sm k9) (j4 f g):=Φ
def IQ:∀n,j4 FU n=mp4 k9 (fh n):=co Φ λf _ h=>(IP FU f).trans (by rw[h];funext _ _ _ _;simp only[eG,ss])
def p8:ai prog 17 (la):=evX func17 (S:=CA) aB (af trivial) (tys:=[aM,.bool]) (λf x=>k8 true (sm k9) (j4 f f) x.1 x.2.1 x.2.2.1) (λx=>by show _=Option.map k9 _;rw[IQ FU];simp only[k8,b7,ss])
def Cg (m:Bool)(K:Int→Option C)(s:ag.den)(id:Int):Option C:=ce m (.slice eM) (cg s id 1) (iw s id 1) λr1=>cond (il r1=0) (K 0) (ck (bd 0 r1.length) (K (ix eM r1 0).2.1.1))
def fQ (s:ag.den)(id:Int):Option Int:=Cg false some s id
def yD:Ent:=evE (.cons ag (.cons tInt .unit)) aA (zero tInt) λx=>fQ x.1 x.2.1
def S3:Par:=⟨bF.tab,aE [(47,Cu)],λ_=>look [],λ_=>look []⟩
def Cf:ai prog 19 (yD):=evX func19 (S:=S3) aB (af ⟨K6,ans⟩) (tys:=[tInt]) (λf x=>Cg true (sm aA) x.1 x.2.1) (λx=>by show _=Option.map aA _;simp only[Cg,fQ,ss])
def uK (m:Bool)(K:Int→Option C)(s:ag.den)(w:Υ)(id:Int):Option C:=cl m tInt (fQ s id) λr1=>cond (!r1=0) (K r1) (cl m (.cons aM (.cons .bool .unit)) (b7 w id 1) (λr2=>K r2.1.1))
def l7 (s:ag.den)(w:Υ)(id:Int):Option Int:=uK false some s w id
def HX:Ent:=evE (.cons ag (.cons (.slice tCell) (.cons tInt .unit))) aA (zero tInt) λx=>l7 x.1 x.2.1 x.2.2.1
def VF:Par:=⟨bF.tab,aE [(19,yD),(17,la)],λ_=>look [],λ_=>look []⟩
def VE:ai prog 156 (HX):=evX func156 (S:=VF) aB (af ⟨Cf,p8,ans⟩) (tys:=[tInt]) (λf x=>uK true (sm aA) x.1 x.2.1 x.2.2.1) (λx=>by show _=Option.map aA _;simp only[uK,l7,ss])
def qV (m:Bool)(K:Bool→Option C)(f:Int):Option C:=let b:Bool:=!cond (f≥1) (f≤4) false&&f≥8;let a:Bool:=!cond (f≥1) (f≤4) false;nq m [2,1] (f≥1) (nq m [2,2] a (nq m [2] b (nm m 0 a (ii b&&true) (nq m [0] a (K (cond (cond (f≥1) (f≤4) false) true (cond (f≥8) (decide (f<48)) false)))))))
def gF (f:Int):Option Bool:=qV false some f
def EB:Ent:=evE (.cons tInt .unit) aa (zero .bool) λx=>gF x.1
def Q0:ai prog 155 (EB):=evX func155 (S:=ql) aB (af trivial) (tys:=[.bool]) (λf x=>qV true (sm aa) x.1) (λx=>by show _=Option.map aa _;simp only[qV,gF,ss])
def xC (m:Bool)(K:Bool→Option C)(f:Int)(field:Int)(v:aM.den):Option C:=let a:Bool:=!decide (field=3);(cl m .bool (iR f field v) λr1=>(nq m [3,2] r1 (nq m [2,2] (r1&&(!(!eqD aM v (0,false,[],0,())))) (nq m [2] ((r1&&(!(!eqD aM v (0,false,[],0,()))))&&a) (nm m 0 (r1&&(!(!eqD aM v (0,false,[],0,())))) ((ii ((r1&&(!(!eqD aM v (0,false,[],0,()))))&&a))&&true) (nm m 0 r1 (ii (r1&&(!(!eqD aM v (0,false,[],0,()))))) (nq m [1] r1 (K (bif r1 then(bif (!eqD aM v (0,false,[],0,()))then true else(bif a then(!decide (field=4))else false))else false)))))))))
def oV (f:Int)(field:Int)(v:aM.den):Option Bool:=xC false some f field v
def LR:Ent:=evE (.cons tInt (.cons tInt (.cons aM .unit))) aa (zero .bool) λx=>oV x.1 x.2.1 x.2.2.1
def Xg:Par:=⟨bF.tab,aE [(233,Al)],λ_=>look [],λ_=>look []⟩
def Xf:ai prog 157 (LR):=evX func157 (S:=Xg) aB (af ⟨Ih,ans⟩) (tys:=[.bool]) (λf x=>xC true (sm aa) x.1 x.2.1 x.2.2.1) (λx=>by show _=Option.map aa _;simp only[xC,oV,ss])
abbrev i6 (C:Type):=tCommit.den→tCell.den→Int→Option C
def kG (m:Bool)(K:Int→Option C)(f:aG C):i6 C:=λc x g=>cl m (.cons aM (.cons .bool .unit)) (b7 c.2.2.2.2.1 x.1 g) λr5=>cond (!r5.2.1) (K 16) f
def kF (m:Bool)(K:Int→Option C):aG C:=(K 0)
def VM (f:Int):Bool:=(gF f).isSome
def VN (f:Int):Bool:=(gF f).getD (zero .bool)
def rg (m:Bool)(K:Int→Option C)(f:i6 C)(g:aG C)(s:ag.den)(c:tCommit.den)(x:tCell.den):Option C:=let a:=cond (x.2.2.1.1<1) true (x.2.2.1.1>5);cl m .bool (b8 x.1) λr1=>let b:Bool:=!cond (!r1) true (x.1=c.1);nq m [2,2,3,0] (!!r1) (nq m [2] b (nm m 1 b (VM x.2.1) (nq m [2,0] b (cond (cond (cond (!r1) true (x.1=c.1)) true (!VN x.2.1)) (K 5) (cl m tInt (fQ s x.1) (λr2=>cond (x.2.1=1) (nq m [2,2,2,0] (!x.2.2.1.1<1) (nq m [2,2,2,2,3,0] (!cond (x.2.2.1.1<1) true (x.2.2.1.1>5)) (nq m [2,2] (!cond a true (!eqD aM x.2.2.1 (x.2.2.1.1,false,[],0,()))) (nq m [2,2,3] (!cond a true (!eqD aM x.2.2.1 (x.2.2.1.1,false,[],0,()))&&!r2=0) (nm m 0 (!cond a true (!eqD aM x.2.2.1 (x.2.2.1.1,false,[],0,()))) (ii (!cond a true (!eqD aM x.2.2.1 (x.2.2.1.1,false,[],0,()))&&!r2=0)&&true) (nq m [0] (!cond a true (!eqD aM x.2.2.1 (x.2.2.1.1,false,[],0,()))) (cond (cond (cond a true (!eqD aM x.2.2.1 (x.2.2.1.1,false,[],0,()))) true (cond (!r2=0) (!r2=x.2.2.1.1) false)) (K 10) (cond (r2=0) (cond (x.2.2.1.1=5) (f c x 4) (f c x 3)) g)))))))) (cl m tInt (l7 s c.2.2.2.2.1 x.1) (λr3=>cond (r3=0) (K 7) (cl m .bool (oV r3 x.2.1 x.2.2.1) (λr4=>cond (!r4) (K 13) (K 0)))))))))))
def fT:aG Int:=kF false some
def i9:i6 Int:=kG false some fT
def jJ (s:ag.den)(c:tCommit.den)(x:tCell.den):Option Int:=rg false some i9 fT s c x
def EM:Ent:=evE (.cons ag (.cons tCommit (.cons tCell .unit))) aA (zero tInt) λx=>jJ x.1 x.2.1 x.2.2.1
def Gc:MS:=⟨3,[(0,[.drop]),(1,[.dat tInt,.dat (.slice tInt),.dat (.slice tInt),.dat .str,.dat (.slice tCell)]),(2,[.dat tInt,.dat tInt,.dat tInt,.dat .bool,.dat .str,.dat tInt])],[(4,.keep),(5,.keep),(8,.dat tInt)]⟩
def EN:Par:=⟨bF.tab,aE [(153,eJ),(155,EB),(19,yD),(156,HX),(157,LR),(17,la)],λ_=>look [(11,Gc),(14,b9)],λ_=>look []⟩
def EP:KT:=bw bF.tab [.tmp 6] [tInt]
def mj:=h12 EN f108
def ow (f:Nat):i6 AV:=λc x g=>mj f 0 [1,1,1,0,1,0,1,0,1,0,1,1] ⟨mkE 98 [(4,.box 1 0),(5,.box 2 0),(8,.val tInt g)],mkH 3 [(0,.box [.unk]),(1,.box [.val tInt c.1,.val (.slice tInt) c.2.1,.val (.slice tInt) c.2.2.1,.val .str c.2.2.2.1,.val (.slice tCell) c.2.2.2.2.1]),(2,.box [.val tInt x.1,.val tInt x.2.1,.val tInt x.2.2.1.1,.val .bool x.2.2.1.2.1,.val .str x.2.2.1.2.2.1,.val tInt x.2.2.1.2.2.2.1])]⟩ (bc 0 (some b9) (mj f 0 [1,1,1,0,1,0,1,1]) (bc 0 none (mj f 0 [1,1,1,1]) EP))
def i7 (f:Nat):aG AV:=mj f 0 [1,1,1,0,1,0,1,1] ⟨mkE 98 [],mkH 0 []⟩ (bc 0 none (mj f 0 [1,1,1,1]) EP)
def Ge (f:Nat):ow f=kG true (sm aA) (i7 f):=Φ
def Gd (f:Nat):i7 f=kF true (sm aA):=Φ
def vY:i7 FU=mp0 aA (fT):=(Gd FU).trans (by simp only[kF,fT,ss])
def Gf:ow FU=mp3 aA (i9):=(Ge FU).trans (by rw[vY];funext _ _ _;simp only[kG,i9,ss])
def Rh:ai prog 108 (EM):=evX func108 (S:=EN) aB (af ⟨fY,Q0,Cf,VE,Xf,p8,ans⟩) (tys:=[tInt]) (λf x=>rg true (sm aA) (ow f) (i7 f) x.1 x.2.1 x.2.2.1) (λx=>by show _=Option.map aA _;rw[Gf,vY];simp only[rg,jJ,ss])
def eW (m:Bool)(K:Bool→Option C)(f:br C):br C:=λl i=>let e:=ix tCell l i;let c:=bd i l.length;let a:=w64 (i-1);let d:=ix tCell l a;let b:=bd a l.length;cond (i<il l) (ck b (ck b (ck c (ck c (ce m .bool true (tP d.1 d.2.1 e.1 e.2.1) (λr1=>cond (!r1) (K false) (fz m tInt (w64 (i+1)) (λg=>f l g)))))))) (K true)
def qJ (m:Bool)(K:Bool→Option C)(f:br C)(l:Υ):Option C:=f l 1
def ib:Nat→br Bool:=lp (λ_ _=>none) λf=>eW false some f
def jB (l:Υ):Option Bool:=qJ false some (ib FU) l
def DL:Ent:=evE (.cons (.slice tCell) .unit) aa (zero .bool) λx=>jB x.1
def DN:Par:=⟨bF.tab,aE [(139,vp)],λ_=>look [],λ_=>look [(2,gq)]⟩
def DO:=h12 DN f107
def kA (f n:Nat):br AV:=λl i=>aW 0 gq (DO f 0 [1,0,1,0,0]) (am 0 (bc 0 none (DO f 0 [1,1]) iB)) n ⟨mkE 34 [(0,.val (.slice tCell) l),(3,.val tInt i)],mkH 0 []⟩
def JR (f g:Nat):kA f (g+1)=eW true (sm aa) (kA f g):=Φ
def JS:∀n,kA FU n=mp2 aa (ib n):=co Φ λf _ h=>(JR FU f).trans (by rw[h];funext _ _;simp only[eW,ss])
def Qf:ai prog 107 (DL):=evX func107 (S:=DN) aB (af ⟨La,ans⟩) (tys:=[.bool]) (λf x=>qJ true (sm aa) (kA f f) x.1) (λx=>by show _=Option.map aa _;rw[JS FU];simp only[qJ,jB,ss])
abbrev jK (C:Type):=ag.den→tCommit.den→Int→Option C
def ml (m:Bool)(K:Int→Option C)(f:jK C):jK C:=λs c i=>cond (i<il c.2.2.2.2.1) (ck (bd i c.2.2.2.2.1.length) (cl m tInt (jJ s c (ix tCell c.2.2.2.2.1 i)) (λr3=>cond (!r3=0) (K r3) (fz m tInt (w64 (i+1)) (λg=>f s c g))))) (K 0)
def uU (m:Bool)(K:Int→Option C)(f:jK C)(s:ag.den)(c:tCommit.den):Option C:=cl m .bool (lU c) λr1=>cond (!r1) (K 5) (cl m .bool (jB c.2.2.2.2.1) (λr2=>cond (!r2) (K 12) (f s c 0)))
def nM:Nat→jK Int:=lp (λ_ _ _=>none) λf=>ml false some f
def mn (s:ag.den)(c:tCommit.den):Option Int:=uU false some (nM FU) s c
def Ie:Ent:=evE (.cons ag (.cons tCommit .unit)) aA (zero tInt) λx=>mn x.1 x.2.1
def Bo:MS:=⟨2,[(0,[.dat (.slice ae)]),(1,[.dat tInt,.dat (.slice tInt),.dat (.slice tInt),.dat .str,.dat (.slice tCell)])],[(2,.keep),(3,.keep),(5,.dat tInt)]⟩
def If:Par:=⟨bF.tab,aE [(106,HB),(107,DL),(108,EM)],λ_=>look [],λ_=>look [(6,Bo)]⟩
def Ak:KT:=bw bF.tab [.tmp 4] [tInt]
def Ig:=h12 If f59
def nL (f n:Nat):jK AV:=λs c i=>aW 0 Bo (Ig f 0 [1,1,1,0,1,0,0]) (am 0 (bc 0 none (Ig f 0 [1,1,1,1]) Ak)) n ⟨mkE 32 [(2,.box 0 0),(3,.box 1 0),(5,.val tInt i)],mkH 2 [(0,.box [.val (.slice ae) s.1]),(1,.box [.val tInt c.1,.val (.slice tInt) c.2.1,.val (.slice tInt) c.2.2.1,.val .str c.2.2.2.1,.val (.slice tCell) c.2.2.2.2.1])]⟩
def N0 (f g:Nat):nL f (g+1)=ml true (sm aA) (nL f g):=Φ
def N1:∀n,nL FU n=mp3 aA (nM n):=co Φ λf _ h=>(N0 FU f).trans (by rw[h];funext _ _ _;simp only[ml,ss])
def V3:ai prog 59 (Ie):=evX func59 (S:=If) aB (af ⟨U0,Qf,Rh,ans⟩) (tys:=[tInt]) (λf x=>uU true (sm aA) (nL f f) x.1 x.2.1) (λx=>by show _=Option.map aA _;rw[N1 FU];simp only[uU,mn,ss])
abbrev dE:=(Ty.den (.cons tCommit (.cons .bool .unit)))
abbrev mo (C:Type):=Λ→Int→Int→Option C
def pS (m:Bool)(K:dE→Option C)(g:mo C):mo C:=λl f i=>let a:=bd i l.length;cond (i<il l) (ck a (cond ((ix tCommit l i).1=f) (ck a (K (ix tCommit l i,true,()))) (fz m tInt (w64 (i+1)) (λj=>g l f j)))) (K ((0,[],[],[],[],()),false,()))
def yW (m:Bool)(K:dE→Option C)(g:mo C)(l:Λ)(f:Int):Option C:=g l f 0
def rj:Nat→mo dE:=lp (λ_ _ _=>none) λf=>pS false some f
def iS (l:Λ)(f:Int):Option dE:=yW false some (rj FU) l f
def dD (r:dE):AV :=.tup (dF [.val tCommit r.1,.val .bool r.2.1])
def yX:Ent:=evE (.cons (.slice tCommit) (.cons tInt .unit)) dD (zero (.cons tCommit (.cons .bool .unit))) λx=>iS x.1 x.2.1
def EV:MS:=⟨1,[(0,[.dat tInt,.own tInt 3,.own tInt 3,.dat .str,.own tCell 65])],[(0,.dat (.slice tCommit)),(1,.dat tInt),(4,.keep),(6,.dat tInt)]⟩
def N5:Par:=⟨bF.tab,aE [],λ_=>look [],λ_=>look [(2,EV)]⟩
def Zq:KT:=bw bF.tab [.cell 4 41,.tmp 5] [tCommit,.bool]
def N6:=h12 N5 f18
def ri (f n:Nat):mo AV:=λl g i=>aW 0 EV (N6 f 0 [1,0,1,0,0]) (am 0 (bc 0 none (N6 f 0 [1,1]) Zq)) n ⟨mkE 25 [(0,.val (.slice tCommit) l),(1,.val tInt g),(4,.box 0 0),(6,.val tInt i)],mkH 4 [(0,.box [.val tInt (0:Int),.own 1 0 tInt [],.own 2 0 tInt [],.val .str [],.own 3 0 tCell []]),(1,.row tInt 3 0),(2,.row tInt 3 0),(3,.row tCell 65 0)]⟩
def Rj (f g:Nat):ri f (g+1)=pS true (sm dD) (ri f g):=Φ
def Rk:∀n,ri FU n=mp3 dD (rj n):=co Φ λf _ h=>(Rj FU f).trans (by rw[h];funext _ _ _;simp only[pS,ss])
def EU:ai prog 18 (yX):=evX func18 (S:=N5) aB (af trivial) (tys:=[tCommit,.bool]) (λf x=>yW true (sm dD) (ri f f) x.1 x.2.1) (λx=>by show _=Option.map dD _;rw[Rk FU];simp only[yW,iS,ss])
abbrev tL (C:Type):=Λ→(List Int)→Nat→(List Int)→Option C
def zt (m:Bool)(K:(List Int)→Option C)(j:tL C):tL C:=λl out f g=>let b:=ni f-1;let c:=w64 b;let a:=List.getD g (0+Int.toNat c) (zero tInt);cond (ni f>0) (ck (0≤w64 b&&w64 b<ni f) (ck (0≤w64 b&&w64 b≤ni f) (cl m (.cons tCommit (.cons .bool .unit)) (iS l a) (λr1=>nm m 2 (!!r1.2.1) (yQ out a) (nq m [0] (!!r1.2.1) (cond (cond (!r1.2.1) true (gG out a)) (fm m (0+Int.toNat c) (λp=>j l out p g)) (cl m (.slice tInt) (uu out a) (λr2=>ck (lm (0+Int.toNat c+List.length r1.1.2.1)) (fm m (0+Int.toNat c+List.length r1.1.2.1) (λp=>fz m (.slice tInt) (List.take (0+Int.toNat c) g++r1.1.2.1) λr=>j l r2 p r)))))))))) (K out)
def K4 (m:Bool)(K:(List Int)→Option C)(g:tL C)(l:Λ)(f:(List Int)):Option C:=ck (lm (0+List.length f)) (fm m (0+List.length f) (λp=>fz m (.slice tInt) (List.take 0 []++f) λj=>g l [] p j))
def zr:Nat→tL (List Int):=lp (λ_ _ _ _=>none) λf=>zt false some f
def nY (l:Λ)(f:(List Int)):Option (List Int):=K4 false some (zr FU) l f
def K5:Ent:=evE (.cons (.slice tCommit) (.cons (.slice tInt) .unit)) ar (zero (.slice tInt)) λx=>nY x.1 x.2.1
def O8:MS:=⟨0,[],[(0,.dat (.slice tCommit)),(5,.dat (.slice tInt)),(6,.mut tInt 3)]⟩
def aaS:Par:=⟨LQ.tab,aE [(18,yX),(21,tf),(81,P9)],λ_=>look [],λ_=>look [(3,O8)]⟩
def agj:KT:=bw LQ.tab [.tmp 4] [(.slice tInt)]
def aaT:=h12 aaS f50
def zq (g n:Nat):tL AV:=λl out f j=>aW 0 O8 (aaT g 0 [1,1,1,0,0,0]) (am 0 (bc 0 none (aaT g 0 [1,1,1,1]) agj)) n ⟨mkE 48 [(0,.val (.slice tCommit) l),(5,.val (.slice tInt) out),(6,.msl 0 0 0 f)],mkH 1 [(0,.mrow tInt 3 0 j)]⟩
def aaQ (f g:Nat):zq f (g+1)=zt true (sm ar) (zq f g):=Φ
def aaR:∀n,zq FU n=mp4 ar (zr n):=co Φ λf _ h=>(aaQ FU f).trans (by rw[h];funext _ _ _ _;simp only[zt,ss])
def RR:ai prog 50 (K5):=evX func50 (S:=aaS) LP (af ⟨EU,wS,XX,ans⟩) (tys:=[(.slice tInt)]) (λf x=>K4 true (sm ar) (zq f f) x.1 x.2.1) (λx=>by show _=Option.map ar _;rw[aaR FU];simp only[K4,nY,ss])
def ahk (g:Λ)(f:(List Int)):Bool:=(nY g f).isSome
def aeh (g:Λ)(f:(List Int)):(List Int):=(nY g f).getD (zero (.slice tInt))
def vi (m:Bool)(K:Bool→Option C)(l:Λ)(a:Int)(b:Int):Option C:=let d:=aeh l [b];let c:Bool:=!a=b;nq m [1] c (nm m 2 c (ahk l [b]) (nm m 2 c (yQ d a) (nq m [1] c (K (cond c (gG d a) false)))))
def mF (l:Λ)(a:Int)(b:Int):Option Bool:=vi false some l a b
def II:Ent:=evE (.cons (.slice tCommit) (.cons tInt (.cons tInt .unit))) aa (zero .bool) λx=>mF x.1 x.2.1 x.2.2.1
def Wu:Par:=⟨bF.tab,aE [(50,K5),(21,tf)],λ_=>look [],λ_=>look []⟩
def Wt:ai prog 22 (II):=evX func22 (S:=Wu) aB (af ⟨RR,wS,ans⟩) (tys:=[.bool]) (λf x=>vi true (sm aa) x.1 x.2.1 x.2.2.1) (λx=>by show _=Option.map aa _;simp only[vi,mF,ss])
abbrev ft (C:Type):=Λ→(List Int)→(List Int)→Int→Option C
abbrev kO (C:Type):=Λ→(List Int)→(List Int)→Int→Bool→Int→Option C
abbrev Uo (C:Type):=Λ→(List Int)→(List Int)→Int→Int→Bool→Option C
abbrev Up (C:Type):=Λ→(List Int)→Int→(List Int)→Option C
def rV (m:Bool)(K:(List Int)→Option C)(g:kO C):ft C:=λl f out i=>cond (i<il f) (ck (bd i f.length) (cl m (.cons tCommit (.cons .bool .unit)) (iS l (ix tInt f i)) (λr1=>g l f out i r1.2.1 0))) (K out)
def oT (m:Bool)(K:(List Int)→Option C)(g:kO C):Uo C:=λl f out i p ok=>fz m tInt (w64 (p+1)) λj=>g l f out i ok j
def oU (m:Bool)(K:(List Int)→Option C)(g:ft C):Up C:=λl f i out=>fz m tInt (w64 (i+1)) λj=>g l f out j
def rU (m:Bool)(K:(List Int)→Option C)(g:kO C)(j:ft C):kO C:=λl f out i ok p=>let b:=ix tInt f i;let a:=bd i f.length;nq m [2,3,1] ok (cond (cond ok (p<il f) false) (ck a (ck (bd p f.length) (cl m .bool (mF l b (ix tInt f p)) (λr2=>cond r2 (oT m K g l f out i p false) (oT m K g l f out i p ok))))) (cond ok (ck a (cl m (.slice tInt) (uu out b) (λr3=>oU m K j l f i r3))) (oU m K j l f i out)))
def BZ (m:Bool)(K:(List Int)→Option C)(g:ft C)(l:Λ)(f:(List Int)):Option C:=g l f [] 0
def oR (g:ft (List Int)):Nat→kO (List Int):=lp (λ_ _ _ _ _ _=>none) λf=>rU false some f g
def uf:Nat→ft (List Int):=lp (λ_ _ _ _=>none) λf=>rV false some (oR f FU)
def rW (l:Λ)(f:(List Int)):Option (List Int):=BZ false some (uf FU) l f
def Sa:Ent:=evE (.cons (.slice tCommit) (.cons (.slice tInt) .unit)) ar (zero (.slice tInt)) λx=>rW x.1 x.2.1
def oQ:MS:=⟨0,[],[(0,.dat (.slice tCommit)),(1,.dat (.slice tInt)),(5,.dat (.slice tInt)),(6,.dat tInt)]⟩
def zG:MS:=⟨0,[],[(0,.dat (.slice tCommit)),(1,.dat (.slice tInt)),(5,.dat (.slice tInt)),(6,.dat tInt),(8,.dat .bool),(9,.dat tInt)]⟩
def Sd:Par:=⟨bF.tab,aE [(18,yX),(22,II),(81,P9)],λ_=>look [(8,zG),(4,oQ)],λ_=>look [(3,oQ),(7,zG)]⟩
def qp:=h12 Sd f56
def oS (g n:Nat):ft AV:=λl f out i=>aW 0 oQ (qp g 0 [1,1,0,1,0,0]) (am 0 (bc 0 none (qp g 0 [1,1,1]) vg)) n ⟨mkE 52 [(0,.val (.slice tCommit) l),(1,.val (.slice tInt) f),(5,.val (.slice tInt) out),(6,.val tInt i)],mkH 0 []⟩
def ue (f p n:Nat):kO AV:=λl g out i ok j=>aW 0 zG (qp f 0 [1,1,0,1,0,0,1,0,0,1,0,1,0,0]) (am 2 (bc 0 none (qp f 0 [1,1,0,1,0,0,1,0,0,1,1]) (am 1 (bc 0 (some oQ) (qp f 0 [1,1,0,1,0,0,1,1]) (kLp 0 oQ (qp f 0 [1,1,0,1,0,0]) (am 0 (bc 0 none (qp f 0 [1,1,1]) vg)) p))))) n ⟨mkE 52 [(0,.val (.slice tCommit) l),(1,.val (.slice tInt) g),(5,.val (.slice tInt) out),(6,.val tInt i),(8,.val .bool ok),(9,.val tInt j)],mkH 0 []⟩
def Us (f g:Nat):oS f (g+1)=rV true (sm ar) (ue f g f):=Φ
def Uq (f g j:Nat):ue f g (j+1)=rU true (sm ar) (ue f g j) (oS f g):=Φ
def Ur (j:Nat){f:ft (List Int)}(g:oS FU j=mp4 ar f):∀n,ue FU j n=mp6 ar (oR f n):=co Φ λl _ h=>(Uq FU j l).trans (by rw[h,g];funext _ _ _ _ _ _;simp only[rU,oU,oT,ss])
def Ut:∀n,oS FU n=mp4 ar (uf n):=co Φ λf _ h=>(Us FU f).trans (by rw[Ur f h FU];funext _ _ _ _;simp only[rV,oU,oT,ss])
def abj:ai prog 56 (Sa):=evX func56 (S:=Sd) aB (af ⟨EU,Wt,XX,ans⟩) (tys:=[(.slice tInt)]) (λf x=>BZ true (sm ar) (oS f f) x.1 x.2.1) (λx=>by show _=Option.map ar _;rw[Ut FU];simp only[BZ,rW,oU,oT,ss])
abbrev bK (C:Type):=Λ→(List Int)→Int→Option C
abbrev mc (C:Type):=Λ→(List Int)→Int→Bool→Int→Option C
abbrev Q9 (C:Type):=Λ→Int→(List Int)→Option C
def pM (m:Bool)(K:(List Int)→Option C)(f:mc C):bK C:=λl out i=>cond (i<il l) (f l out i true 0) (K out)
def kX (m:Bool)(K:(List Int)→Option C)(f:bK C):Q9 C:=λl i out=>fz m tInt (w64 (i+1)) λg=>f l out g
def pK (m:Bool)(K:(List Int)→Option C)(g:mc C)(f:bK C):mc C:=λl out i head j=>let c:=bd i l.length;let b:=ix tCommit l j;let a:=ix tCommit l i;cond (j<il l) (nm m 2 head (bd j l.length) (nq m [2,2] head (nm m 2 head c (nq m [2,2] head (nm m 2 head (yQ b.2.1 a.1) (nq m [2,1] head (fz m .bool (cond head (!gG b.2.1 a.1) false) (λr=>fz m tInt (w64 (j+1)) λp=>g l out i r p)))))))) (cond head (ck c (ck (lm (List.length out+List.length ([a.1]:List Int))) (fz m (.slice tInt) (out++[a.1]) (λJ=>kX m K f l i J)))) (kX m K f l i out))
def yJ (m:Bool)(K:(List Int)→Option C)(f:bK C)(l:Λ):Option C:=f l [] 0
def mf (g:bK (List Int)):Nat→mc (List Int):=lp (λ_ _ _ _ _=>none) λf=>pK false some f g
def rc:Nat→bK (List Int):=lp (λ_ _ _=>none) λf=>pM false some (mf f FU)
def pO (l:Λ):Option (List Int):=yJ false some (rc FU) l
def NS:Ent:=evE (.cons (.slice tCommit) .unit) ar (zero (.slice tInt)) λx=>pO x.1
def gg:MS:=⟨0,[],[(0,.dat (.slice tCommit)),(3,.own tInt 3),(4,.dat tInt)]⟩
def EH:MS:=⟨0,[],[(0,.dat (.slice tCommit)),(3,.own tInt 3),(4,.dat tInt),(5,.dat .bool),(6,.dat tInt)]⟩
def NT:Par:=⟨bF.tab,aE [(21,tf)],λ_=>look [(4,gg)],λ_=>look [(3,gg),(7,EH)]⟩
def mh:=h12 NT f80
def mg (f n:Nat):bK AV:=λl out i=>aW 0 gg (mh f 0 [1,1,0,1,0,0]) (am 0 (bc 0 none (mh f 0 [1,1,1]) Kr)) n ⟨mkE 44 [(0,.val (.slice tCommit) l),(3,.own 0 0 tInt out),(4,.val tInt i)],mkH 1 [(0,.row tInt 3 0)]⟩
def ra (f j n:Nat):mc AV:=λl out i head g=>aW 0 EH (mh f 0 [1,1,0,1,0,0,1,0,0,1,0,1,0,0]) (am 2 (bc 0 none (mh f 0 [1,1,0,1,0,0,1,0,0,1,1]) (am 1 (bc 0 (some gg) (mh f 0 [1,1,0,1,0,0,1,1]) (kLp 0 gg (mh f 0 [1,1,0,1,0,0]) (am 0 (bc 0 none (mh f 0 [1,1,1]) Kr)) j))))) n ⟨mkE 44 [(0,.val (.slice tCommit) l),(3,.own 0 0 tInt out),(4,.val tInt i),(5,.val .bool head),(6,.val tInt g)],mkH 1 [(0,.row tInt 3 0)]⟩
def Rc (f g:Nat):mg f (g+1)=pM true (sm ar) (ra f g f):=Φ
def Ra (f g j:Nat):ra f g (j+1)=pK true (sm ar) (ra f g j) (mg f g):=Φ
def Rb (j:Nat){f:bK (List Int)}(g:mg FU j=mp3 ar f):∀n,ra FU j n=mp5 ar (mf f n):=co Φ λl _ h=>(Ra FU j l).trans (by rw[h,g];funext _ _ _ _ _;simp only[pK,kX,ss])
def Rd:∀n,mg FU n=mp3 ar (rc n):=co Φ λf _ h=>(Rc FU f).trans (by rw[Rb f h FU];funext _ _ _;simp only[pM,kX,ss])
def Y3:ai prog 80 (NS):=evX func80 (S:=NT) aB (af ⟨wS,ans⟩) (tys:=[(.slice tInt)]) (λf x=>yJ true (sm ar) (mg f f) x.1) (λx=>by show _=Option.map ar _;rw[Rd FU];simp only[yJ,pO,kX,ss])
def mP (m:Bool)(K:Bool→Option C)(c:tCommit.den)(id:Int)(field:Int):Option C:=cl m (.cons aM (.cons .bool .unit)) (b7 c.2.2.2.2.1 id field) λr1=>K r1.2.1
def fk (c:tCommit.den)(id:Int)(field:Int):Option Bool:=mP false some c id field
def AH:Ent:=evE (.cons tCommit (.cons tInt (.cons tInt .unit))) aa (zero .bool) λx=>fk x.1 x.2.1 x.2.2.1
def Li:Par:=⟨bF.tab,aE [(17,la)],λ_=>look [],λ_=>look []⟩
def Lh:ai prog 140 (AH):=evX func140 (S:=Li) aB (af ⟨p8,ans⟩) (tys:=[.bool]) (λf x=>mP true (sm aa) x.1 x.2.1 x.2.2.1) (λx=>by show _=Option.map aa _;simp only[mP,fk,ss])
abbrev gx (C:Type):=Λ→(List Int)→Λ→(List (List Int))→Int→Option C
abbrev Mo (C:Type):=Λ→(List Int)→Int→Λ→(List (List Int))→Option C
abbrev bG (C:Type):=Λ→(List (List Int))→Int→(List ae.den)→Option C
abbrev bY (C:Type):=Λ→(List (List Int))→Int→Int→(List ae.den)→Option C
abbrev gY (C:Type):=Λ→(List (List Int))→Int→Int→(List ae.den)→Bool→Int→Option C
def eV (m:Bool)(K:ag.den→Option C)(j:gx C):Mo C:=λl r i f g=>fz m tInt (w64 (i+1)) λp=>j l r f g p
def lQ (m:Bool)(K:ag.den→Option C)(j:gx C)(J:bG C):gx C:=λl p f g i=>let b:=ix tCommit l i;let a:=bd i l.length;cond (i<il l) (ck a (cl m .bool (nK p b.1) (λr1=>cond r1 (ck a (ck (lm (List.length f+List.length ([ix tCommit l i]:List tCommit.den))) (ck a (cl m (.slice tInt) (nY l [b.1]) (λr2=>ck (lm (List.length g+List.length ([r2]:List (List Int)))) (fz m (.slice tCommit) (f++[ix tCommit l i]) (λP=>fz m (.slice (.slice tInt)) (g++[r2]) λr=>eV m K j l p i P r))))))) (eV m K j l p i f g)))) (J f g 0 [])
def jv (m:Bool)(K:ag.den→Option C)(j:bY C):bG C:=λf l i g=>cond (i<il f) (j f l i 0 g) (K (g,()))
def ju (m:Bool)(K:ag.den→Option C)(p:gY C)(J:bG C):bY C:=λf g i l j=>let b:=bd i f.length;let a:=ix tCommit f i;ck b (cond (l<il a.2.2.2.2.1) (ck b (ck (bd l a.2.2.2.2.1.length) (p f g i l j true 0))) (fz m tInt (w64 (i+1)) (λr=>J f g r j)))
def dJ (m:Bool)(K:ag.den→Option C)(g:bY C):bY C:=λf j i r l=>fz m tInt (w64 (r+1)) λp=>g f j i p l
def CC (j:tCommit.den)(g:Int)(f:Int):Bool:=(fk j g f).isSome
def eI (j:tCommit.den)(g:Int)(f:Int):Bool:=(fk j g f).getD (zero .bool)
def jt (m:Bool)(K:ag.den→Option C)(T:gY C)(J:bY C):gY C:=λl p i R r P j=>let h:Bool:=!j=i;let f:=bd i l.length;let e:=ix (.slice tInt) p j;let d:=ix tCommit l j;let c:=ix tCommit l i;let a:=ix tCell c.2.2.2.2.1 R;let g:Bool:=!eI d a.1 a.2.1;let b:Bool:=!cond (j=i) true g;nq m [1] (j<il l) (cond (cond (j<il l) P false) (nm m 2 h (bd j l.length) (nq m [2,2,2] h (nm m 3 h (CC d a.1 a.2.1) (nq m [2,0] h (nm m 2 b (bd j p.length) (nq m [2] b (nm m 2 b f (nq m [2,2] b (nm m 2 b (yQ e c.1) (nq m [2,0] b (fz m .bool (cond (cond (j=i) true g) true (!gG e c.1)) (λy5_=>fz m tInt (w64 (j+1)) λU=>T l p i R r y5_ U)))))))))))) (cond P (ce m (.slice eM) (cg (r,()) a.1 a.2.1) (iw (r,()) a.1 a.2.1) (λr3=>ck (lm (List.length ([]:List eM.den)+List.length r3)) (ck f (ck (lm (List.length ([]++r3)+List.length ([(c.1,a.2.2.1,())]:List eM.den))) (ce m ag (abu (r,()) a.1 a.2.1 ([]++r3++[(c.1,a.2.2.1,())])) (oh (r,()) a.1 a.2.1 ([]++r3++[(c.1,a.2.2.1,())])) (λr4=>dJ m K J l p i R r4.1)))))) (dJ m K J l p i R r)))
def uq (m:Bool)(K:ag.den→Option C)(f:gx C)(l:Λ)(g:(List Int)):Option C:=f l g [] [] 0
def g7 (J:bG ag.den)(g:bY ag.den):Nat→gY ag.den:=lp (λ_ _ _ _ _ _ _=>none) λf=>jt false some f g
def g9 (J:bG ag.den):Nat→bY ag.den:=lp (λ_ _ _ _ _=>none) λf=>ju false some (g7 J f FU) J
def hO:Nat→bG ag.den:=lp (λ_ _ _ _=>none) λJ=>jv false some (g9 J FU)
def jr:Nat→gx ag.den:=lp (λ_ _ _ _ _=>none) λf=>lQ false some f (hO FU)
def lR (l:Λ)(f:(List Int)):Option ag.den:=uq false some (jr FU) l f
def bq (r:ag.den):AV :=.val ag r
def Hq:Ent:=evE (.cons (.slice tCommit) (.cons (.slice tInt) .unit)) bq (zero ag) λx=>lR x.1 x.2.1
def sr:MS:=⟨1,[(0,[.dat (.slice ae)])],[(0,.dat (.slice tCommit)),(1,.dat (.slice tInt)),(4,.keep),(5,.own tCommit 41),(6,.own (.slice tInt) 33),(7,.dat tInt)]⟩
def kw:MS:=⟨8,[(0,[.dat (.slice ae)]),(7,[.dat (.slice ae)])],[(4,.keep),(5,.own tCommit 41),(6,.own (.slice tInt) 33),(8,.keep),(9,.dat tInt)]⟩
def gZ:MS:=⟨8,[(0,[.dat (.slice ae)]),(7,[.dat (.slice ae)])],[(4,.keep),(5,.own tCommit 41),(6,.own (.slice tInt) 33),(8,.keep),(9,.dat tInt),(10,.dat tInt)]⟩
def xP:MS:=⟨27,[(0,[.dat (.slice ae)]),(7,[.dat (.slice ae)]),(26,[.dat tInt,.dat tInt,.dat tInt,.dat .bool,.dat .str,.dat tInt])],[(4,.keep),(5,.own tCommit 41),(6,.own (.slice tInt) 33),(8,.keep),(9,.dat tInt),(10,.dat tInt),(11,.keep),(12,.dat .bool),(13,.dat tInt)]⟩
def Hr:Par:=⟨bF.tab,aE [(21,tf),(50,K5),(140,AH),(47,Cu),(141,PP)],λ_=>look [(5,sr),(15,gZ)],λ_=>look [(4,sr),(11,kw),(14,gZ),(19,xP)]⟩
def ur:KT:=bw bF.tab [.cell 4 47] [ag]
def bV:=h12 Hr f79
def nv (f n:Nat):gx AV:=λl p g j i=>aW 0 sr (bV f 0 [1,1,1,0,1,0,0]) (am 0 (bc 0 none (bV f 0 [1,1,1,1]) ur)) n ⟨mkE 134 [(0,.val (.slice tCommit) l),(1,.val (.slice tInt) p),(4,.box 0 0),(5,.own 1 0 tCommit g),(6,.own 2 0 (.slice tInt) j),(7,.val tInt i)],mkH 3 [(0,.box [.val (.slice ae) []]),(1,.row tCommit 41 0),(2,.row (.slice tInt) 33 0)]⟩
def fx (f n:Nat):bG AV:=λg j i l=>aW 0 kw (bV f 0 [1,1,1,1,1,0,1,0,0]) (am 2 (bc 0 none (bV f 0 [1,1,1,1,1,1]) ur)) n ⟨mkE 134 [(4,.box 0 0),(5,.own 8 0 tCommit g),(6,.own 9 0 (.slice tInt) j),(8,.box 7 0),(9,.val tInt i)],mkH 10 [(0,.box [.val (.slice ae) []]),(1,.row tCommit 41 1),(2,.row (.slice tInt) 33 1),(7,.box [.val (.slice ae) l]),(8,.row tCommit 41 0),(9,.row (.slice tInt) 33 0)]⟩
def g8 (f r n:Nat):bY AV:=λg j i p l=>aW 0 gZ (bV f 0 [1,1,1,1,1,0,1,0,0,1,0,0,1,0,0]) (am 4 (am 3 (bc 0 none (bV f 0 [1,1,1,1,1,0,1,0,0,1,1]) (kLp 0 kw (bV f 0 [1,1,1,1,1,0,1,0,0]) (am 2 (bc 0 none (bV f 0 [1,1,1,1,1,1]) ur)) r)))) n ⟨mkE 134 [(4,.box 0 0),(5,.own 8 0 tCommit g),(6,.own 9 0 (.slice tInt) j),(8,.box 7 0),(9,.val tInt i),(10,.val tInt p)],mkH 10 [(0,.box [.val (.slice ae) []]),(1,.row tCommit 41 1),(2,.row (.slice tInt) 33 1),(7,.box [.val (.slice ae) l]),(8,.row tCommit 41 0),(9,.row (.slice tInt) 33 0)]⟩
def kx (f P J n:Nat):gY AV:=λg p i r C l j=>let a:=ix tCell (ix tCommit g i).2.2.2.2.1 r;aW 0 xP (bV f 0 [1,1,1,1,1,0,1,0,0,1,0,0,1,0,0,1,0,0,1,1,0,1,0,0]) (am 6 (bc 0 none (bV f 0 [1,1,1,1,1,0,1,0,0,1,0,0,1,0,0,1,0,0,1,1,1]) (am 5 (bc 0 (some gZ) (bV f 0 [1,1,1,1,1,0,1,0,0,1,0,0,1,0,0,1,1]) (kLp 0 gZ (bV f 0 [1,1,1,1,1,0,1,0,0,1,0,0,1,0,0]) (am 4 (am 3 (bc 0 none (bV f 0 [1,1,1,1,1,0,1,0,0,1,1]) (kLp 0 kw (bV f 0 [1,1,1,1,1,0,1,0,0]) (am 2 (bc 0 none (bV f 0 [1,1,1,1,1,1]) ur)) P)))) J))))) n ⟨mkE 134 [(4,.box 0 0),(5,.own 27 0 tCommit g),(6,.own 28 0 (.slice tInt) p),(8,.box 7 0),(9,.val tInt i),(10,.val tInt r),(11,.box 26 0),(12,.val .bool l),(13,.val tInt j)],mkH 29 [(0,.box [.val (.slice ae) []]),(1,.row tCommit 41 1),(2,.row (.slice tInt) 33 1),(7,.box [.val (.slice ae) C]),(8,.row tCommit 41 1),(9,.row (.slice tInt) 33 1),(26,.box [.val tInt a.1,.val tInt a.2.1,.val tInt a.2.2.1.1,.val .bool a.2.2.1.2.1,.val .str a.2.2.1.2.2.1,.val tInt a.2.2.1.2.2.2.1]),(27,.row tCommit 41 0),(28,.row (.slice tInt) 33 0)]⟩
def Mp (f g:Nat):nv f (g+1)=lQ true (sm bq) (nv f g) (fx f f):=Φ
def Ju (f g:Nat):fx f (g+1)=jv true (sm bq) (g8 f g f):=Φ
def Js (f g j:Nat):g8 f g (j+1)=ju true (sm bq) (kx f g j f) (fx f g):=Φ
def Jq (f j g l:Nat):kx f j g (l+1)=jt true (sm bq) (kx f j g l) (g8 f j g):=Φ
variable{J:bG ag.den}
def Jr (g j:Nat)(r:fx FU g=mp4 bq J){f:bY ag.den}(l:g8 FU g j=mp5 bq f):∀n,kx FU g j n=mp7 bq (g7 J f n):=co Φ λp _ h=>(Jq FU g j p).trans (by rw[h,l];funext _ _ _ _ _ _ _;simp only[jt,dJ,eV,ss])
def Jt (g:Nat)(f:fx FU g=mp4 bq J):∀n,g8 FU g n=mp5 bq (g9 J n):=co Φ λj _ h=>(Js FU g j).trans (by rw[Jr g j f h FU,f];funext _ _ _ _ _;simp only[ju,dJ,eV,ss])
def Jv:∀n,fx FU n=mp4 bq (hO n):=co Φ λf _ h=>(Ju FU f).trans (by rw[Jt f h FU];funext _ _ _ _;simp only[jv,dJ,eV,ss])
def Mq:∀n,nv FU n=mp5 bq (jr n):=co Φ λf _ h=>(Mp FU f).trans (by rw[h,Jv FU];funext _ _ _ _ _;simp only[lQ,dJ,eV,ss])
def UR:ai prog 79 (Hq):=evX func79 (S:=Hr) aB (af ⟨wS,RR,Lh,K6,aez,ans⟩) (tys:=[ag]) (λf x=>uq true (sm bq) (nv f f) x.1 x.2.1) (λx=>by show _=Option.map bq _;rw[Mq FU];simp only[uq,lR,dJ,eV,ss])
def Ct (m:Bool)(K:ag.den→Option C)(l:Λ)(f:(List Int)):Option C:=cl m (.slice tInt) (nY l f) λr1=>cl m ag (lR l r1) λr2=>K r2
def pY (l:Λ)(f:(List Int)):Option ag.den:=Ct false some l f
def K2:Ent:=evE (.cons (.slice tCommit) (.cons (.slice tInt) .unit)) bq (zero ag) λx=>pY x.1 x.2.1
def adE:Par:=⟨bF.tab,aE [(50,K5),(79,Hq)],λ_=>look [],λ_=>look []⟩
def TQ:ai prog 48 (K2):=evX func48 (S:=adE) aB (af ⟨RR,UR,ans⟩) (tys:=[ag]) (λf x=>Ct true (sm bq) x.1 x.2.1) (λx=>by show _=Option.map bq _;simp only[Ct,pY,ss])
def BX (m:Bool)(K:Str→Option C)(f:Int)(x:Int):Option C:=let a:=cond (f=1) true (f=3);nq m [2,0] (!f=1) (cl m tInt (mod2_ev x 5) (λr1=>cond (r1=0) (cond a (K [77]) (K [102])) (cond (r1=1) (cond a (K [78]) (K [103])) (cond (r1=2) (cond a (K [84]) (K [120])) (cond (r1=3) (cond a (K [65,98,49]) (K [121])) (cond a (K [81]) (K [107,95,50])))))))
def je (f:Int)(x:Int):Option Str:=BX false some f x
def kc (r:Str):AV :=.val .str r
def I3:Ent:=evE (.cons tInt (.cons tInt .unit)) kc (zero .str) λx=>je x.1 x.2.1
def BY:Par:=⟨bF.tab,aE [(31,z8)],λ_=>look [],λ_=>look []⟩
def R5:ai prog 98 (I3):=evX func98 (S:=BY) aB (af ⟨mod2_x,ans⟩) (tys:=[.str]) (λf x=>BX true (sm kc) x.1 x.2.1) (λx=>by show _=Option.map kc _;simp only[BX,je,ss])
def ud (m:Bool)(K:Str→Option C)(x:Int):Option C:=cl m tInt (mod2_ev x 5) λr1=>cond (r1=0) (K [32]) (cond (r1=1) (K [10]) (cond (r1=2) (K [32,35,32,110,111,116,101,10]) (cond (r1=3) (K []) (K [9,32,32]))))
def lD (x:Int):Option Str:=ud false some x
def Hb:Ent:=evE (.cons tInt .unit) kc (zero .str) λx=>lD x.1
def Ul:ai prog 101 (Hb):=evX func101 (S:=BY) aB (af ⟨mod2_x,ans⟩) (tys:=[.str]) (λf x=>ud true (sm kc) x.1) (λx=>by show _=Option.map kc _;simp only[ud,lD,ss])
def Kl (m:Bool)(K:Str→Option C)(x:Int):Option C:=cl m tInt (mod2_ev x 26) λr1=>ck (!(26:Int)=0) (cl m tInt (mod2_ev (w64 (Int.tdiv x 26)) 25) (λr2=>K (List.map (λn : Int=>UInt8.ofNat n.toNat) [IntKind.wrap .u8 (w64 ((97:Int)+r1)),IntKind.wrap .u8 (w64 ((98:Int)+r2))])))
def qT (x:Int):Option Str:=Kl false some x
def YU:Ent:=evE (.cons tInt .unit) kc (zero .str) λx=>qT x.1
def afo:ai prog 102 (YU):=evX func102 (S:=BY) aB (af ⟨mod2_x,ans⟩) (tys:=[.str]) (λf x=>Kl true (sm kc) x.1) (λx=>by show _=Option.map kc _;simp only[Kl,qT,ss])
abbrev er (C:Type):=Int→ag.den→(List Int)→Int→Option C
abbrev Gi (C:Type):=Int→Int→ag.den→(List Int)→Option C
def iq (m:Bool)(K:(List Int)→Option C)(g:er C):Gi C:=λf i s out=>fz m tInt (w64 (i+1)) λj=>g f s out j
def afm (g:ag.den)(f:Int):Bool:=(fQ g f).isSome
def afn (g:ag.den)(f:Int):Int:=(fQ g f).getD (zero tInt)
def ip (m:Bool)(K:(List Int)→Option C)(g:er C):er C:=λf s out i=>let b:=bd i s.1.length;let a:=ix ae s.1 i;cond (i<il s.1) (ck b (nq m [2,2] (a.2.1=1) (nq m [2] (a.2.1=1&&!f=0) (nm m 2 (a.2.1=1&&!f=0) b (nq m [2,2] (a.2.1=1&&!f=0) (nm m 2 (a.2.1=1&&!f=0) (afm s a.1) (nq m [3] (a.2.1=1&&!f=0) (nm m 0 (a.2.1=1) (ii (a.2.1=1&&!f=0)) (nq m [1] (a.2.1=1) (cond (cond (a.2.1=1) (cond (f=0) true (afn s a.1=f)) false) (ck b (ck (lm (List.length out+List.length ([a.1]:List Int))) (fz m (.slice tInt) (out++[a.1]) (λj=>iq m K g f i s j)))) (iq m K g f i s out))))))))))) (K out)
def nP (m:Bool)(K:(List Int)→Option C)(g:er C)(s:ag.den)(f:Int):Option C:=g f s [] 0
def jb:Nat→er (List Int):=lp (λ_ _ _ _=>none) λf=>ip false some f
def aS (s:ag.den)(f:Int):Option (List Int):=nP false some (jb FU) s f
def nQ:Nw:=nwE tInt (.cons ag (.cons tInt .unit)) 3 λx=>aS x.1 x.2.1
def oC:MS:=⟨1,[(0,[.dat (.slice ae)])],[(1,.dat tInt),(2,.keep),(5,.own tInt 3),(6,.dat tInt)]⟩
def BA:Par:=⟨bF.tab,aE [(19,yD)],λ_=>look [(4,oC)],λ_=>look [(3,oC)]⟩
def Oh:KT:=XD bF.tab [.tmp 4] tInt 3
def BB:=h12 BA f39
def ja (f n:Nat):er AV:=λg s out i=>aW 0 oC (BB f 0 [1,1,0,1,0,0]) (am 0 (bc 0 none (BB f 0 [1,1,1]) Oh)) n ⟨mkE 47 [(1,.val tInt g),(2,.box 0 0),(5,.own 1 0 tInt out),(6,.val tInt i)],mkH 2 [(0,.box [.val (.slice ae) s.1]),(1,.row tInt 3 0)]⟩
def Gj (f g:Nat):ja f (g+1)=ip true (sm ar) (ja f g):=Φ
def Gk:∀n,ja FU n=mp4 ar (jb n):=co Φ λf _ h=>(Gj FU f).trans (by rw[h];funext _ _ _ _;simp only[ip,iq,ss])
def tD:RZ prog 39 (nQ):=nwX func39 (S:=BA) aB (af ⟨Cf,ans⟩) (λf x=>nP true (sm ar) (ja f f) x.1 x.2.1) (λx=>by show _=Option.map ar _;rw[Gk FU];simp only[nP,aS,iq,ss])
def B6 (m:Bool)(K:Int→Option C)(l:(List Int))(x:Int):Option C:=cond (il l=0) (K 0) (cl m tInt (mod2_ev x (il l)) (λr1=>ck (bd r1 l.length) (K (ix tInt l r1))))
def bk (l:(List Int))(x:Int):Option Int:=B6 false some l x
def B7:Ent:=evE (.cons (.slice tInt) (.cons tInt .unit)) aA (zero tInt) λx=>bk x.1 x.2.1
def JO:ai prog 32 (B7):=evX func32 (S:=BY) aB (af ⟨mod2_x,ans⟩) (tys:=[tInt]) (λf x=>B6 true (sm aA) x.1 x.2.1) (λx=>by show _=Option.map aA _;simp only[B6,bk,ss])
def B5 (m:Bool)(K:aM.den→Option C)(s:ag.den)(id:Int)(field:Int):Option C:=ce m (.slice eM) (cg s id field) (iw s id field) λr1=>cond (il r1=0) (K (0,false,[],0,())) (ck (bd 0 r1.length) (K (ix eM r1 0).2.1))
def fP (s:ag.den)(id:Int)(field:Int):Option aM.den:=B5 false some s id field
def SA:Ent:=evE (.cons ag (.cons tInt (.cons tInt .unit))) cX (zero aM) λx=>fP x.1 x.2.1 x.2.2.1
def abA:ai prog 100 (SA):=evX func100 (S:=S3) aB (af ⟨K6,ans⟩) (tys:=[aM]) (λf x=>B5 true (sm cX) x.1 x.2.1 x.2.2.1) (λx=>by show _=Option.map cX _;simp only[B5,fP,ss])
def ui (m:Bool)(K:aM.den→Option C)(v:aM.den)(s:ag.den)(x:Int):Option C:=let b:=w64 (Int.tdiv x 4);let a:=w64 (Int.tdiv x 6);nq m [2,2,1] (v.1≥5) (cond (cond (v.1≥5) (v.1≤9) false) (cl m tInt (mod2_ev x 4) (λr1=>cond (r1=0) (K (5,false,[],0,())) (cond (r1=1) (K (6,false,[],0,())) (cond (r1=2) (ck (!(4:Int)=0) (cl m .str (je 3 b) (λr2=>K (9,false,r2,0,())))) (cl m (.slice tInt) (aS s 3) (λr3=>ck (!(4:Int)=0) (cl m tInt (bk r3 b) (λr4=>cond (!r4=0) (K (9,false,[],r4,())) (K (7,false,[],0,())))))))))) (cond (v.1=21) (cl m tInt (mod2_ev x 2) (λr5=>cond (r5=0) (K (21,false,[42],0,())) (K (21,false,[60],0,())))) (cond (v.1=20) (cl m .str (je 2 x) (λr6=>K (20,false,r6,0,()))) (cl m tInt (mod2_ev x 6) (λr7=>cond (r7=0) (K (10,false,[51],0,())) (cond (r7=1) (K (11,false,[34,115,34],0,())) (cond (r7=2) (cl m (.slice tInt) (aS s 4) (λr8=>ck (!(6:Int)=0) (cl m tInt (bk r8 a) (λr9=>cond (!r9=0) (K (12,false,[],r9,())) (K (12,false,[122],0,())))))) (cond (r7=3) (cl m (.slice tInt) (aS s 2) (λr10=>ck (!(6:Int)=0) (cl m tInt (bk r10 a) (λr11=>cond (!r11=0) (ck (!(6:Int)=0) (cl m tInt (mod2_ev a 3) (λr12=>K (16,decide (r12=0),[],r11,())))) (K (16,false,[77,46,102],0,())))))) (cond (r7=4) (K (10,false,[49,50],0,())) (K (13,false,[],0,())))))))))))
def eQ (v:aM.den)(s:ag.den)(x:Int):Option aM.den:=ui false some v s x
def Hk:Ent:=evE (.cons aM (.cons ag (.cons tInt .unit))) cX (zero aM) λx=>eQ x.1 x.2.1 x.2.2.1
def UF:Par:=⟨bF.tab,Ja [(31,z8),(98,I3),(32,B7)] [] [] [] [(39,nQ)],λ_=>look [],λ_=>look []⟩
def UE:ai prog 99 (Hk):=evX func99 (S:=UF) aB (zK ⟨mod2_x,R5,JO,ans⟩ trivial trivial trivial ⟨tD,ans⟩) (tys:=[aM]) (λf x=>ui true (sm cX) x.1 x.2.1 x.2.2.1) (λx=>by show _=Option.map cX _;simp only[ui,eQ,ss])
abbrev cr (C:Type):=Υ→Nat→Int→Υ→Option C
abbrev jj (C:Type):=Υ→Int→Nat→Int→Υ→Option C
abbrev Jb (C:Type):=Υ→Int→Int→Nat→Int→Υ→Option C
abbrev L0 (C:Type):=Υ→Int→Nat→Υ→Option C
def lJ (m:Bool)(K:bB→Option C)(g:jj C):cr C:=λl f i out=>cond (i<il l) (fz m tInt (ni f) (λj=>g l i f j out)) (K ((List.take f out).drop 0))
def lK (m:Bool)(K:bB→Option C)(g:cr C):L0 C:=λl i f out=>fz m tInt (w64 (i+1)) λj=>g l f j out
def eO (m:Bool)(K:bB→Option C)(p:cr C):Jb C:=λl i g f j out=>let a:=List.take (0+f) out;ck (0≤j&&j≤ni f) (ck (lm (List.length ([]:List tCell.den)+List.length (a.drop (0+Int.toNat j)))) (ck (0≤g&&g≤ni f) (ck (bd i l.length) (ck (lm (0+Int.toNat g+List.length ([ix tCell l i]:List tCell.den))) (ck (lm (0+Int.toNat g+List.length ([ix tCell l i]:List tCell.den)+List.length (([]:List tCell.den)++a.drop (0+Int.toNat j)))) (fm m (0+Int.toNat g+List.length ([ix tCell l i]:List tCell.den)+List.length (([]:List tCell.den)++a.drop (0+Int.toNat j))) (λJ=>fz m (.slice tCell) (List.take (0+Int.toNat g+List.length ([ix tCell l i]:List tCell.den)) (List.take (0+Int.toNat g) out++[ix tCell l i])++(([]:List tCell.den)++a.drop (0+Int.toNat j))) λr=>lK m K p l i J r)))))))
def lI (m:Bool)(K:bB→Option C)(J:jj C)(r:cr C):jj C:=let g:=zero tCell;λl i j p out=>let h:=w64 (p-1);let f:=ix tCell l i;let e:=decide (p>0);let d:=bd i l.length;let c:=List.getD out (0+Int.toNat p) g;let b:=List.getD out (0+Int.toNat h) g;let a:Bool:=cond (p<ni j) (c.1=f.1) false;nq m [2] (p>0) (nm m 2 (p>0) (0≤w64 (p-1)&&w64 (p-1)<ni j) (nq m [2,2,2] (p>0) (nm m 2 (p>0) (0≤w64 (p-1)&&w64 (p-1)<ni j) (nq m [2,2] (p>0) (nm m 2 (p>0) d (nq m [2,2] (p>0) (nm m 2 (p>0) d (nq m [2,2] (p>0) (ck (ii e&&(ii e&&(ii e&&(ii e&&true)))&&true) (nq m [2,1] (p>0) (cond (cond (p>0) (!tP b.1 b.2.1 f.1 f.2.1) false) (fz m tInt h (λR=>J l i j R out)) (nm m 2 (p<ni j) (0≤p&&p<ni j) (nq m [2,2] (p<ni j) (nm m 2 (p<ni j) d (nq m [2,2,3,1] (p<ni j) (nm m 2 a (0≤p&&p<ni j) (nq m [2,2] a (nm m 2 a d (nq m [2,2,3,1] a (cond (cond a (c.2.1=f.2.1) false) (fz m tInt (w64 (p+1)) (λP=>eO m K r l i p j P out)) (eO m K r l i p j p out)))))))))))))))))))))
def uh (m:Bool)(K:bB→Option C)(f:cr C)(l:Υ):Option C:=f l 0 0 []
def jm (g:cr bB):Nat→jj bB:=lp (λ_ _ _ _ _=>none) λf=>lI false some f g
def nk:Nat→cr bB:=lp (λ_ _ _ _=>none) λf=>lJ false some (jm f FU)
def lL (l:Υ):Option bB:=uh false some (nk FU) l
def Hg:Ent:=evE (.cons (.slice tCell) .unit) bH (zero (.slice tCell)) λx=>lL x.1
def jl:MS:=⟨0,[],[(0,.dat (.slice tCell)),(3,.mut tCell 65),(4,.dat tInt)]⟩
def AU:MS:=⟨0,[],[(0,.dat (.slice tCell)),(3,.mut tCell 65),(4,.dat tInt),(5,.dat tInt)]⟩
def Jc:MS:=⟨0,[],[(0,.dat (.slice tCell)),(3,.mut tCell 65),(4,.dat tInt),(5,.dat tInt),(6,.dat tInt)]⟩
def Hh:Par:=⟨bF.tab,aE [(139,vp)],λ_=>look [(11,Jc),(4,jl)],λ_=>look [(3,jl),(6,AU)]⟩
def Hi:KT:=bw bF.tab [.tmp 2] [(.slice tCell)]
def iF:=h12 Hh f105
def jn (fuel n:Nat):cr AV:=λl out_hi i out=>aW 0 jl (iF fuel 0 [1,1,0,1,0,0]) (am 0 (bc 0 none (iF fuel 0 [1,1,1]) Hi)) n ⟨mkE 96 [(0,.val (.slice tCell) l),(3,.msl 0 0 0 out_hi),(4,.val tInt i)],mkH 1 [(0,.mrow tCell 65 0 out)]⟩
def nh (f p n:Nat):jj AV:=λl i g j out=>aW 0 AU (iF f 0 [1,1,0,1,0,0,1,0,0,1,0,0,0]) (am 2 (bc 0 none (iF f 0 [1,1,0,1,0,0,1,0,0,1,1]) (am 1 (bc 0 (some jl) (iF f 0 [1,1,0,1,0,0,1,1]) (kLp 0 jl (iF f 0 [1,1,0,1,0,0]) (am 0 (bc 0 none (iF f 0 [1,1,1]) Hi)) p))))) n ⟨mkE 96 [(0,.val (.slice tCell) l),(3,.msl 0 0 0 g),(4,.val tInt i),(5,.val tInt j)],mkH 1 [(0,.mrow tCell 65 0 out)]⟩
def L7 (f g:Nat):jn f (g+1)=lJ true (sm bH) (nh f g f):=Φ
def L5 (f g j:Nat):nh f g (j+1)=lI true (sm bH) (nh f g j) (jn f g):=Φ
def L6 (j:Nat){f:cr bB}(g:jn FU j=mp4 bH f):∀n,nh FU j n=mp5 bH (jm f n):=co Φ λl _ h=>(L5 FU j l).trans (by rw[h,g];funext _ _ _ _ _;simp only[lI,eO,lK,ss])
def L8:∀n,jn FU n=mp4 bH (nk n):=co Φ λf _ h=>(L7 FU f).trans (by rw[L6 f h FU];funext _ _ _ _;simp only[lJ,eO,lK,ss])
def UC:ai prog 105 (Hg):=evX func105 (S:=Hh) aB (af ⟨La,ans⟩) (tys:=[(.slice tCell)]) (λf x=>uh true (sm bH) (jn f f) x.1) (λx=>by show _=Option.map bH _;rw[L8 FU];simp only[uh,lL,eO,lK,ss])
abbrev jQ (C:Type):=Int→(List Int)→aN.den→Υ→Int→Option C
abbrev p7 (C:Type):=Int→(List Int)→Int→Υ→aN.den→Υ→Int→Option C
abbrev aaX (C:Type):=Int→(List Int)→Int→Υ→Int→aN.den→Υ→Option C
def zB (m:Bool)(K:bB→Option C)(f:p7 C):jQ C:=λid r1 g out i=>nq m [2,1] (i<il ([id]++r1)) (cond (cond (i<il ([id]++r1)) (i<12) false) (ck (bd i ([id]++r1).length) (cl m (.slice tCell) (D4 g.1 (ix tInt ([id]++r1) i)) (λr2=>f id r1 i r2 g out 0))) (K out))
def vn (m:Bool)(K:bB→Option C)(f:p7 C):aaX C:=λid r1 i r2 j l out=>fz m tInt (w64 (j+1)) λg=>f id r1 i r2 l out g
def zy (m:Bool)(K:bB→Option C)(f:p7 C)(j:jQ C):p7 C:=λid r1 i r2 r out g=>let a:=bd g r2.length;cond (g<il r2) (ck a (cond (!(ix tCell r2 g).2.1=1) (ck a (ck (lm (List.length out+List.length ([ix tCell r2 g]:List tCell.den))) (fz m (.slice tCell) (out++[ix tCell r2 g]) (λl=>vn m K f id r1 i r2 g r l)))) (vn m K f id r1 i r2 g r out))) (fz m tInt (w64 (i+1)) (λp=>j id r1 r out p))
def K8 (m:Bool)(K:bB→Option C)(f:jQ C)(g:aN.den)(id:Int):Option C:=cl m (.slice tInt) (mD g id) λr1=>ck (lm (List.length ([id]:List Int)+List.length r1)) (f id r1 g [] 0)
def tN (g:jQ bB):Nat→p7 bB:=lp (λ_ _ _ _ _ _ _=>none) λf=>zy false some f g
def zA:Nat→jQ bB:=lp (λ_ _ _ _ _=>none) λf=>zB false some (tN f FU)
def nZ (f:aN.den)(id:Int):Option bB:=K8 false some (zA FU) f id
def aa2:Ent:=evE (.cons aN (.cons tInt .unit)) bH (zero (.slice tCell)) λx=>nZ x.1 x.2.1
def FI:MS:=⟨1,[(0,[.dat (.slice tCell)])],[(2,.keep),(5,.dat (.slice tInt)),(6,.own tCell 65),(7,.dat tInt)]⟩
def FH:MS:=⟨1,[(0,[.dat (.slice tCell)])],[(2,.keep),(5,.dat (.slice tInt)),(6,.own tCell 65),(7,.dat tInt),(8,.dat (.slice tCell)),(9,.dat tInt)]⟩
def aa3:Par:=⟨bF.tab,aE [(151,IF),(152,ad5)],λ_=>look [(9,FH)],λ_=>look [(4,FI),(8,FH)]⟩
def AC:=h12 aa3 f104
def tO (f n:Nat):jQ AV:=λid r1 g out i=>aW 0 FI (AC f 0 [1,1,1,0,1,0,0]) (am 0 (bc 0 none (AC f 0 [1,1,1,1]) Yv)) n ⟨mkE 53 [(2,.box 0 0),(5,.val (.slice tInt) ([id]++r1)),(6,.own 1 0 tCell out),(7,.val tInt i)],mkH 2 [(0,.box [.val (.slice tCell) g.1]),(1,.row tCell 65 0)]⟩
def zx (f l n:Nat):p7 AV:=λid r1 i r2 j out g=>aW 0 FH (AC f 0 [1,1,1,0,1,0,0,1,0,0,1,1,0,0]) (am 2 (am 1 (bc 0 none (AC f 0 [1,1,1,0,1,0,0,1,1]) (kLp 0 FI (AC f 0 [1,1,1,0,1,0,0]) (am 0 (bc 0 none (AC f 0 [1,1,1,1]) Yv)) l)))) n ⟨mkE 53 [(2,.box 0 0),(5,.val (.slice tInt) ([id]++r1)),(6,.own 1 0 tCell out),(7,.val tInt i),(8,.val (.slice tCell) r2),(9,.val tInt g)],mkH 2 [(0,.box [.val (.slice tCell) j.1]),(1,.row tCell 65 0)]⟩
def aa0 (f g:Nat):tO f (g+1)=zB true (sm bH) (zx f g f):=Φ
def aaY (f g j:Nat):zx f g (j+1)=zy true (sm bH) (zx f g j) (tO f g):=Φ
def aaZ (j:Nat){f:jQ bB}(g:tO FU j=mp5 bH f):∀n,zx FU j n=mp7 bH (tN f n):=co Φ λl _ h=>(aaY FU j l).trans (by rw[h,g];funext _ _ _ _ _ _ _;simp only[zy,vn,ss])
def aa1:∀n,tO FU n=mp5 bH (zA n):=co Φ λf _ h=>(aa0 FU f).trans (by rw[aaZ f h FU];funext _ _ _ _ _;simp only[zB,vn,ss])
def agk:ai prog 104 (aa2):=evX func104 (S:=aa3) aB (af ⟨Ws,ag1,ans⟩) (tys:=[(.slice tCell)]) (λf x=>K8 true (sm bH) (tO f f) x.1 x.2.1) (λx=>by show _=Option.map bH _;rw[aa1 FU];simp only[K8,nZ,vn,ss])
abbrev fw (C:Type):=Nat→Int→Υ→Option C
abbrev Jn (C:Type):=Int→Nat→Υ→Option C
def jq (m:Bool)(K:bB→Option C)(g:fw C):Jn C:=λi f out=>fz m tInt (w64 (i+1)) λj=>g f j out
def jp (m:Bool)(K:bB→Option C)(g:fw C):fw C:=λf i out=>let a:=List.getD out (0+Int.toNat i) (zero tCell);cond (i<ni f) (ck (0≤i&&i<ni f) (cond (a.2.1=2) (ck (0≤i&&i<ni f) (fz m (.slice tCell) (List.set out (0+Int.toNat i) (a.1,a.2.1,(0,false,[],0,()),())) (λj=>jq m K g i f j))) (jq m K g i f out))) (K ((List.take f out).drop 0))
def qy (m:Bool)(K:bB→Option C)(f:fw C)(l:Υ):Option C:=ck (lm (0+List.length l)) (fm m (0+List.length l) (λj=>fz m (.slice tCell) (List.take 0 []++l) λg=>f j 0 g))
def ku:Nat→fw bB:=lp (λ_ _ _=>none) λf=>jp false some f
def eU (l:Υ):Option bB:=qy false some (ku FU) l
def Df:Ent:=evE (.cons (.slice tCell) .unit) bH (zero (.slice tCell)) λx=>eU x.1
def qz:MS:=⟨0,[],[(3,.mut tCell 65),(4,.dat tInt)]⟩
def Dg:Par:=⟨LQ.tab,aE [],λ_=>look [(4,qz)],λ_=>look [(3,qz)]⟩
def PY:KT:=bw LQ.tab [.tmp 2] [(.slice tCell)]
def Dh:=h12 Dg f103
def kr (g n:Nat):fw AV:=λf i out=>aW 0 qz (Dh g 0 [1,1,0,1,0,0]) (am 0 (bc 0 none (Dh g 0 [1,1,1]) PY)) n ⟨mkE 26 [(3,.msl 0 0 0 f),(4,.val tInt i)],mkH 1 [(0,.mrow tCell 65 0 out)]⟩
def Jo (f g:Nat):kr f (g+1)=jp true (sm bH) (kr f g):=Φ
def Jp:∀n,kr FU n=mp3 bH (ku n):=co Φ λf _ h=>(Jo FU f).trans (by rw[h];funext _ _ _;simp only[jp,jq,ss])
def PX:ai prog 103 (Df):=evX func103 (S:=Dg) LP (af trivial) (tys:=[(.slice tCell)]) (λf x=>qy true (sm bH) (kr f f) x.1) (λx=>by show _=Option.map bH _;rw[Jp FU];simp only[qy,eU,jq,ss])
abbrev dI (C:Type):=Int→(List Int)→(List Int)→(List Int)→Int→Bool→(List ae.den)→Int→Int→Int→Int→Υ→Option C
abbrev j8 (C:Type):=Int→Int→Int→Int→Int→Int→Option C
abbrev fp (C:Type):=Υ→Option C
abbrev j6 (C:Type):=Int→Int→Bool→Str→Int→Option C
def p9 (m:Bool)(K:bB→Option C)(r:j8 C)(p:dI C):dI C:=λP r2 r3 r4 r5 U J l j f g R=>cond U (cl m tInt (bk r2 f) (λr6=>cl m tInt (fQ (J,()) r6) λr7=>nq m [2,0] (!r7=5) (cond (cond (r7=5) true (r7=0)) (cl m tInt (bk r4 f) (λr8=>r r8 2 l j f g)) (r r6 r7 l j f g)))) (cond (r5=2) (fz m .bool (decide (r5=2)) (λT=>p P r2 r3 r4 r5 T J l j f g R)) (fz m .bool (decide (r5=3)) (λT=>p P r2 r3 r4 r5 T J l j f g R)))
def mU (m:Bool)(K:bB→Option C)(f:fp C):j8 C:=λid l J r p g=>cl m .str (je l g) λr9=>ck (lm (List.length ([]:List tCell.den)+List.length ([(id,3,(0,false,r9,0,()),())]:List tCell.den))) (fz m (.slice tCell) ([]++[(id,3,(0,false,r9,0,()),())]) (λj=>f j))
def mT (m:Bool)(K:bB→Option C)(g:fp C)(J:j6 C):dI C:=λf r2 r3 r4 r5 R l U T r j P=>let e:=bk r2 r;let d:=aS (l,()) 4;let c:=aS (l,()) 1;let b:=w64 (Int.tdiv j 2);let a:=bk r3 r;cond R (cl m tInt a (λr10=>cl m aM (fP (l,()) r10 4) λr11=>cl m aM (eQ r11 (l,()) j) λr12=>ck (lm (List.length ([]:List tCell.den)+List.length ([(r10,4,r12,())]:List tCell.den))) (fz m (.slice tCell) ([]++[(r10,4,r12,())]) (λp=>g p)))) (cond (r5=4) (cl m tInt e (λr13=>cl m tInt (mod2_ev j 3) λr14=>ck (!(3:Int)=0) (cl m .str (lD (w64 (Int.tdiv j 3))) (λr15=>ck (lm (List.length ([]:List tCell.den)+List.length ([(r13,w64 ((8:Int)+r14),(0,false,r15,0,()),())]:List tCell.den))) (fz m (.slice tCell) ([]++[(r13,w64 ((8:Int)+r14),(0,false,r15,0,()),())]) (λp=>g p)))))) (cond (r5=5) (cl m tInt (bk r4 r) (λr16=>cl m (.slice tInt) c λr17=>cl m tInt (bk r17 j) λr18=>ck (!(2:Int)=0) (cl m .str (qT b) (λr19=>ck (lm (List.length ([]:List tCell.den)+List.length ([(r16,2,(0,false,r19,r18,()),())]:List tCell.den))) (fz m (.slice tCell) ([]++[(r16,2,(0,false,r19,r18,()),())]) (λp=>g p)))))) (cond (r5=6) (cl m tInt a (λr20=>cl m tInt (bk r3 j) λr21=>cl m aM (fP (l,()) r21 2) λr22=>ck (lm (List.length ([]:List tCell.den)+List.length ([(r20,2,r22,())]:List tCell.den))) (fz m (.slice tCell) ([]++[(r20,2,r22,())]) (λp=>g p)))) (cond (r5=7) (cl m tInt a (λr23=>cl m aM (fP (l,()) r23 2) λr24=>cl m (.slice tCell) (nZ (P,()) r23) λr25=>cl m (.slice tCell) (eU r25) λr26=>ck (lm (List.length ([]:List tCell.den)+List.length r26)) (cl m aM (fP (l,()) r23 4) (λr27=>cl m aM (eQ r27 (l,()) j) λr28=>ck (lm (List.length ([]++r26)+List.length ([(w64 (f+1),1,(5,false,[],0,()),()),(w64 (f+1),2,r24,()),(w64 (f+1),4,r28,())]:List tCell.den))) (fz m (.slice tCell) ([]++r26++[(w64 (f+1),1,(5,false,[],0,()),()),(w64 (f+1),2,r24,()),(w64 (f+1),4,r28,())]) (λp=>g p)))))) (cond (r5=8) (cl m (.slice tInt) c (λr29=>cl m tInt (bk r29 r) λr30=>cl m .str (qT j) λr31=>cl m .str (je 2 j) λr32=>ck (!(2:Int)=0) (cl m aM (eQ (0,false,[],0,()) (l,()) b) (λr33=>ck (lm (List.length ([]:List tCell.den)+List.length ([(w64 (f+1),1,(2,false,[],0,()),()),(w64 (f+1),2,(0,false,r31,r30,()),()),(w64 (f+1),3,(0,false,r32,0,()),()),(w64 (f+1),8,(0,false,[10],0,()),()),(w64 (f+1),9,(0,false,[32],0,()),()),(w64 (f+2),1,(5,false,[],0,()),()),(w64 (f+2),2,(1,false,[],w64 (f+1),()),()),(w64 (f+2),4,(5,false,[],0,()),()),(w64 (f+3),1,(5,false,[],0,()),()),(w64 (f+3),2,(2,false,[],w64 (f+1),()),()),(w64 (f+3),4,r33,())]:List tCell.den))) (fz m (.slice tCell) ([]++[(w64 (f+1),1,(2,false,[],0,()),()),(w64 (f+1),2,(0,false,r31,r30,()),()),(w64 (f+1),3,(0,false,r32,0,()),()),(w64 (f+1),8,(0,false,[10],0,()),()),(w64 (f+1),9,(0,false,[32],0,()),()),(w64 (f+2),1,(5,false,[],0,()),()),(w64 (f+2),2,(1,false,[],w64 (f+1),()),()),(w64 (f+2),4,(5,false,[],0,()),()),(w64 (f+3),1,(5,false,[],0,()),()),(w64 (f+3),2,(2,false,[],w64 (f+1),()),()),(w64 (f+3),4,r33,())]) (λp=>g p)))))) (cond (r5=9) (cl m (.slice tInt) d (λr34=>ck (lm (r4.length+r34.length)) (cl m tInt (bk (r4++r34) r) (λr35=>cl m (.slice tCell) (nZ (P,()) r35) λr36=>cl m (.slice tCell) (eU r36) λr37=>g r37)))) (cond (r5=10) (cl m (.slice tInt) d (λr38=>cl m tInt (bk r38 r) λr39=>cl m aM (fP (l,()) r39 2) λr40=>cond (!r40.2.2.2.1=0) (cl m .str (qT j) (λr41=>J r39 r40.1 r40.2.1 r41 r40.2.2.2.1)) (J r39 r40.1 r40.2.1 r40.2.2.1 r40.2.2.2.1))) (cond (r5=11) (cl m tInt e (λr42=>cl m (.slice tCell) (nZ (P,()) r42) λr43=>g r43)) (g [])))))))))
def mR (m:Bool)(K:bB→Option C):fp C:=λw=>cl m (.slice tCell) (lL w) λr44=>K r44
def mS (m:Bool)(K:bB→Option C)(p:fp C):j6 C:=λr39 l j g f=>ck (lm (List.length ([]:List tCell.den)+List.length ([(r39,2,(l,j,g,f,()),())]:List tCell.den))) (fz m (.slice tCell) ([]++[(r39,2,(l,j,g,f,()),())]) (λr=>p r))
def tU (m:Bool)(K:bB→Option C)(j:dI C)(s:ag.den)(d:bi.den)(g:Int):Option C:=ce m aN (stG s) (eY s) λr1=>cl m (.slice tInt) (aS s 0) λr2=>cl m (.slice tInt) (aS s 5) λr3=>cl m (.slice tInt) (aS s 2) λr4=>cl m tInt (mod2_ev d.1 13) λr5=>cond (r5=0) (fz m .bool (decide (r5=0)) (λP=>fz m (.slice ae) s.1 λJ=>fz m tInt d.1 λr=>fz m tInt d.2.1 λp=>fz m tInt d.2.2.1 λl=>fz m tInt d.2.2.2.1 λf=>j g r2 r3 r4 r5 P J r p l f r1.1)) (fz m .bool (decide (r5=1)) (λP=>fz m (.slice ae) s.1 λJ=>fz m tInt d.1 λr=>fz m tInt d.2.1 λp=>fz m tInt d.2.2.1 λl=>fz m tInt d.2.2.2.1 λf=>j g r2 r3 r4 r5 P J r p l f r1.1))
def dN:fp bB:=mR false some
def dO:j8 bB:=mU false some dN
def gP:j6 bB:=mS false some dN
def gQ:dI bB:=mT false some dN gP
def mQ:dI bB:=p9 false some dO gQ
def lk (s:ag.den)(d:bi.den)(f:Int):Option bB:=tU false some mQ s d f
def GX:Ent:=evE (.cons ag (.cons bi (.cons tInt .unit))) bH (zero (.slice tCell)) λx=>lk x.1 x.2.1 x.2.2.1
def Lk:MS:=⟨6,[(0,[.dat (.slice ae)]),(1,[.dat tInt,.dat tInt,.dat tInt,.dat tInt]),(5,[.dat (.slice tCell)])],[(2,.dat tInt),(3,.keep),(4,.keep),(7,.keep),(8,.dat (.slice tInt)),(9,.dat (.slice tInt)),(10,.own tInt 3),(11,.own tCell 65),(32,.dat tInt),(33,.dat .bool)]⟩
def IT:MS:=⟨2,[(0,[.drop]),(1,[.dat tInt,.dat tInt,.dat tInt,.dat tInt])],[(4,.keep),(11,.own tCell 65),(12,.dat tInt),(13,.dat tInt)]⟩
def IS:MS:=⟨6,[(0,[.dat (.slice ae)]),(1,[.dat tInt,.dat tInt,.dat tInt,.dat tInt]),(5,[.dat (.slice tCell)])],[(2,.dat tInt),(3,.keep),(4,.keep),(7,.keep),(8,.dat (.slice tInt)),(9,.dat (.slice tInt)),(10,.own tInt 3),(11,.own tCell 65),(32,.dat tInt),(63,.dat .bool)]⟩
def gN:MS:=⟨0,[],[(11,.dat (.slice tCell))]⟩
def IR:MS:=⟨32,[(0,[.drop]),(1,[.drop,.drop,.drop,.drop]),(5,[.drop]),(31,[.dat tInt,.dat .bool,.dat .str,.dat tInt])],[(11,.own tCell 65),(20,.dat tInt),(21,.keep)]⟩
def GY:Par:=⟨bF.tab,Ja [(97,Ej),(31,z8),(32,B7),(19,yD),(98,I3),(100,SA),(99,Hk),(101,Hb),(102,YU),(104,aa2),(103,Df),(105,Hg)] [] [] [] [(39,nQ)],λ_=>look [(9,Lk),(14,IT),(17,IS),(45,gN),(42,IR)],λ_=>look []⟩
def oK:KT:=bw bF.tab [.tmp 6] [(.slice tCell)]
def fq:=h12 GY f58
def rL (f:Nat):dI AV:=λg r2 r3 r4 r5 P J C r p l j=>fq f 0 [1,1,1,1,1,1,0,1,0,1] ⟨mkE 290 [(2,.val tInt g),(3,.box 0 0),(4,.box 1 0),(7,.box 5 0),(8,.val (.slice tInt) r2),(9,.val (.slice tInt) r3),(10,.own 6 0 tInt r4),(11,.own 7 0 tCell []),(32,.val tInt r5),(33,.val .bool P)],mkH 8 [(0,.box [.val (.slice ae) J]),(1,.box [.val tInt C,.val tInt r,.val tInt p,.val tInt l]),(5,.box [.val (.slice tCell) j]),(6,.row tInt 3 0),(7,.row tCell 65 0)]⟩ (am 0 (bc 0 (some gN) (fq f 0 [1,1,1,1,1,1,1]) oK))
def qf (f:Nat):j8 AV:=λid r p l j g=>fq f 0 [1,1,1,1,1,1,0,1,0,1,0,1,1,1] ⟨mkE 290 [(4,.box 1 0),(11,.own 2 0 tCell []),(12,.val tInt id),(13,.val tInt r)],mkH 3 [(0,.box [.unk]),(1,.box [.val tInt p,.val tInt l,.val tInt j,.val tInt g]),(2,.row tCell 65 0)]⟩ (am 0 (bc 0 (some gN) (fq f 0 [1,1,1,1,1,1,1]) oK))
def qd (f:Nat):dI AV:=λg r2 r3 r4 r5 P J C r p l j=>fq f 0 [1,1,1,1,1,1,0,1,0,1,1,1] ⟨mkE 290 [(2,.val tInt g),(3,.box 0 0),(4,.box 1 0),(7,.box 5 0),(8,.val (.slice tInt) r2),(9,.val (.slice tInt) r3),(10,.own 6 0 tInt r4),(11,.own 7 0 tCell []),(32,.val tInt r5),(63,.val .bool P)],mkH 8 [(0,.box [.val (.slice ae) J]),(1,.box [.val tInt C,.val tInt r,.val tInt p,.val tInt l]),(5,.box [.val (.slice tCell) j]),(6,.row tInt 3 0),(7,.row tCell 65 0)]⟩ (am 0 (bc 0 (some gN) (fq f 0 [1,1,1,1,1,1,1]) oK))
def gO (f:Nat):fp AV:=λw=>fq f 0 [1,1,1,1,1,1,1] ⟨mkE 290 [(11,.val (.slice tCell) w)],mkH 0 []⟩ oK
def qc (f:Nat):j6 AV:=λr39 p l j g=>fq f 0 [1,1,1,1,1,1,0,1,0,1,1,1,1,1,1,1,1,1,1,1,1,1,1,1,1,1,0,1,1,1] ⟨mkE 290 [(11,.own 32 0 tCell []),(20,.val tInt r39),(21,.box 31 0)],mkH 33 [(0,.box [.unk]),(1,.box [.unk,.unk,.unk,.unk]),(5,.box [.unk]),(6,.row tInt 3 0),(7,.row tCell 65 1),(23,.row tInt 3 1),(31,.box [.val tInt p,.val .bool l,.val .str j,.val tInt g]),(32,.row tCell 65 0)]⟩ (am 0 (bc 0 (some gN) (fq f 0 [1,1,1,1,1,1,1]) oK))
def Ll (f:Nat):rL f=p9 true (sm bH) (qf f) (qd f):=Φ
def IZ (f:Nat):qf f=mU true (sm bH) (gO f):=Φ
def IX (f:Nat):qd f=mT true (sm bH) (gO f) (qc f):=Φ
def IU (f:Nat):gO f=mR true (sm bH):=Φ
def IV (f:Nat):qc f=mS true (sm bH) (gO f):=Φ
def qb:gO FU=mp1 bH (dN):=(IU FU).trans (by funext _;simp only[mR,dN,ss])
def I0:qf FU=mp6 bH (dO):=(IZ FU).trans (by rw[qb];funext _ _ _ _ _ _;simp only[mU,dO,ss])
def IW:qc FU=mp5 bH (gP):=(IV FU).trans (by rw[qb];funext _ _ _ _ _;simp only[mS,gP,ss])
def IY:qd FU=afj bH (gQ):=(IX FU).trans (by rw[qb,IW];funext _ _ _ _ _ _ _ _ _ _ _ _;simp only[mT,gQ,ss])
def Lm:rL FU=afj bH (mQ):=(Ll FU).trans (by rw[I0,IY];funext _ _ _ _ _ _ _ _ _ _ _ _;simp only[p9,mQ,ss])
def T7:ai prog 58 (GX):=evX func58 (S:=GY) aB (zK ⟨YI,mod2_x,JO,Cf,R5,abA,UE,Ul,afo,agk,PX,UC,ans⟩ trivial trivial trivial ⟨tD,ans⟩) (tys:=[(.slice tCell)]) (λf x=>tU true (sm bH) (rL f) x.1 x.2.1 x.2.2.1) (λx=>by show _=Option.map bH _;rw[Lm];simp only[tU,lk,ss])
abbrev dy (C:Type):=Λ→Int→Int→Int→Option C
abbrev gC (C:Type):=Λ→Int→Int→Int→Int→Option C
def pp (m:Bool)(K:Int→Option C)(g:gC C):dy C:=λl f i x=>g l f i x 0
def sJ (m:Bool)(K:Int→Option C)(g:gC C):dy C:=λl f x i=>let b:=bd i l.length;let a:=ix tCommit l i;cond (i<il l) (ck b (ck (0≤(20:Int)) (cond (UH .i64 a.1 20=f) (ck b (fz m tInt (sQ x a.1) (λj=>pp m K g l f i j))) (pp m K g l f i x)))) (K x)
def pn (m:Bool)(K:Int→Option C)(g:gC C):gC C:=λl f i p x=>fz m tInt (w64 (p+1)) λj=>g l f i x j
def sK (m:Bool)(K:Int→Option C)(g:dy C):dy C:=λl f i x=>fz m tInt (w64 (i+1)) λj=>g l f x j
def sI (m:Bool)(K:Int→Option C)(g:gC C)(p:dy C):gC C:=λl f i x j=>let b:=bd i l.length;let a:=ix tCommit l i;let d:=ix tCell a.2.2.2.2.1 j;let c:=bd j a.2.2.2.2.1.length;ck b (cond (j<il a.2.2.2.2.1) (ck b (ck c (ck (0≤(20:Int)) (cond (UH .i64 d.1 20=f) (ck b (ck c (fz m tInt (sQ x d.1) (λr=>pn m K g l f i j r)))) (pn m K g l f i j x))))) (sK m K p l f i x))
def Cd (m:Bool)(K:Int→Option C)(g:dy C)(l:Λ)(f:Int):Option C:=ck (0≤(20:Int)) (fz m tInt (Xr .i64 f 20) (λj=>g l f j 0))
def kT (g:dy Int):Nat→gC Int:=lp (λ_ _ _ _ _=>none) λf=>sI false some f g
def pm:Nat→dy Int:=lp (λ_ _ _ _=>none) λf=>sJ false some (kT f FU)
def pq (l:Λ)(f:Int):Option Int:=Cd false some (pm FU) l f
def SR:Ent:=evE (.cons (.slice tCommit) (.cons tInt .unit)) aA (zero tInt) λx=>pq x.1 x.2.1
def kS:MS:=⟨0,[],[(0,.dat (.slice tCommit)),(1,.dat tInt),(5,.dat tInt),(6,.dat tInt)]⟩
def zZ:MS:=⟨0,[],[(0,.dat (.slice tCommit)),(1,.dat tInt),(5,.dat tInt),(6,.dat tInt),(7,.dat tInt)]⟩
def SS:Par:=⟨bF.tab,aE [],λ_=>look [(7,kS),(9,zZ),(4,kS)],λ_=>look [(3,kS),(8,zZ)]⟩
def uD:=h12 SS f57
def pl (f n:Nat):dy AV:=λl g x i=>aW 0 kS (uD f 0 [1,1,0,1,0,0]) (am 0 (bc 0 none (uD f 0 [1,1,1]) Ak)) n ⟨mkE 65 [(0,.val (.slice tCommit) l),(1,.val tInt g),(5,.val tInt x),(6,.val tInt i)],mkH 0 []⟩
def uC (f p n:Nat):gC AV:=λl g i x j=>aW 0 zZ (uD f 0 [1,1,0,1,0,0,1,0,0,1,1,0,0]) (am 2 (am 1 (bc 0 (some kS) (uD f 0 [1,1,0,1,0,0,1,1]) (kLp 0 kS (uD f 0 [1,1,0,1,0,0]) (am 0 (bc 0 none (uD f 0 [1,1,1]) Ak)) p)))) n ⟨mkE 65 [(0,.val (.slice tCommit) l),(1,.val tInt g),(5,.val tInt x),(6,.val tInt i),(7,.val tInt j)],mkH 0 []⟩
def Vm (f g:Nat):pl f (g+1)=sJ true (sm aA) (uC f g f):=Φ
def Vk (f g j:Nat):uC f g (j+1)=sI true (sm aA) (uC f g j) (pl f g):=Φ
def Vl (j:Nat){f:dy Int}(g:pl FU j=mp4 aA f):∀n,uC FU j n=mp5 aA (kT f n):=co Φ λl _ h=>(Vk FU j l).trans (by rw[h,g];funext _ _ _ _ _;simp only[sI,sK,pp,pn,ss])
def Vn:∀n,pl FU n=mp4 aA (pm n):=co Φ λf _ h=>(Vm FU f).trans (by rw[Vl f h FU];funext _ _ _ _;simp only[sJ,sK,pp,pn,ss])
def act:ai prog 57 (SR):=evX func57 (S:=SS) aB (af trivial) (tys:=[tInt]) (λf x=>Cd true (sm aA) (pl f f) x.1 x.2.1) (λx=>by show _=Option.map aA _;rw[Vn FU];simp only[Cd,pq,sK,pp,pn,ss])
abbrev eo:=Λ
abbrev jF (C:Type):=Λ→tCommit.den→Int→Option C
def l9 (m:Bool)(K:eo→Option C)(g:jF C):jF C:=λl c f=>let d:=Int.toNat f;let b:=List.take (List.length l) l;let a:=List.take d l;nm m 2 (f<il l) (bd f l.length) (nq m [2,2,2,3,1] (f<il l) (cond (cond (f<il l) ((ix tCommit l f).1<c.1) false) (fz m tInt (w64 (f+1)) (λj=>g l c j)) (ck (0≤f&&f≤(l.length:Int)) (ck (lm (List.length ([]:List tCommit.den)+List.length (a.drop 0))) (ck (lm (List.length ([]++a.drop 0)+List.length ([c]:List tCommit.den))) (ck (0≤f&&f≤(l.length:Int)) (ck (lm (List.length ([]++a.drop 0++[c])+List.length (b.drop d))) (K ([]++a.drop 0++[c]++b.drop d)))))))))
def uO (m:Bool)(K:eo→Option C)(f:jF C)(l:Λ)(c:tCommit.den):Option C:=f l c 0
def nJ:Nat→jF eo:=lp (λ_ _ _=>none) λf=>l9 false some f
def ma (l:Λ)(c:tCommit.den):Option eo:=uO false some (nJ FU) l c
def eh (r:eo):AV :=.val (.slice tCommit) r
def H3:Ent:=evE (.cons (.slice tCommit) (.cons tCommit .unit)) eh (zero (.slice tCommit)) λx=>ma x.1 x.2.1
def Bl:MS:=⟨1,[(0,[.dat tInt,.dat (.slice tInt),.dat (.slice tInt),.dat .str,.dat (.slice tCell)])],[(0,.dat (.slice tCommit)),(3,.keep),(5,.dat tInt)]⟩
def H4:Par:=⟨bF.tab,aE [],λ_=>look [],λ_=>look [(2,Bl)]⟩
def H5:KT:=bw bF.tab [.tmp 4] [(.slice tCommit)]
def H6:=h12 H4 f30
def nH (f n:Nat):jF AV:=λl c g=>aW 0 Bl (H6 f 0 [1,1,0,0,0]) (am 0 (bc 0 none (H6 f 0 [1,1,1]) H5)) n ⟨mkE 37 [(0,.val (.slice tCommit) l),(3,.box 0 0),(5,.val tInt g)],mkH 1 [(0,.box [.val tInt c.1,.val (.slice tInt) c.2.1,.val (.slice tInt) c.2.2.1,.val .str c.2.2.2.1,.val (.slice tCell) c.2.2.2.2.1])]⟩
def NL (f g:Nat):nH f (g+1)=l9 true (sm eh) (nH f g):=Φ
def NM:∀n,nH FU n=mp3 eh (nJ n):=co Φ λf _ h=>(NL FU f).trans (by rw[h];funext _ _ _;simp only[l9,ss])
def VP:ai prog 30 (H3):=evX func30 (S:=H4) aB (af trivial) (tys:=[(.slice tCommit)]) (λf x=>uO true (sm eh) (nH f f) x.1 x.2.1) (λx=>by show _=Option.map eh _;rw[NM FU];simp only[uO,ma,ss])
abbrev OS (C:Type):=Λ→Int→bi.den→(List Int)→Option C
abbrev KU (C:Type):=ag.den→Int→(List Int)→(List Int)→Str→Υ→Option C
def jN (m:Bool)(K:dE→Option C):KU C:=λr6 p l j g f=>cl m tInt (mn r6 (p,l,j,g,f,())) λr12=>K ((p,l,j,g,f,()),decide (r12=0),())
def mz (m:Bool)(K:dE→Option C):OS C:=λl r1 d f=>cl m (.slice tInt) (rW l f) λr5=>cl m ag (pY l r5) λr6=>cl m tInt (pq l (w64 ((1:Int)+r1))) λr7=>cl m tInt (mod2_ev d.1 13) λr8=>cond (r8=12) (cl m tInt (mod2_ev d.2.2.1 (il l)) (λr9=>let a:=ix tCommit l r9;ck (bd r9 l.length) (fz m tInt (w64 (r7+1)) (λj=>fz m (.slice tInt) [a.1] λr=>fz m .str [100,101,101,100] λg=>fz m (.slice tCell) a.2.2.2.2.1 λp=>jN m K r6 j r5 r g p)))) (cl m (.slice tCell) (lk r6 d r7) (λr10=>ck (lm (List.length ([]:List tCommit.den)+List.length l)) (ck (lm (List.length ([]++l)+List.length ([(0,r5,[],[100,101,101,100],r10,())]:List tCommit.den))) (cl m tInt (pq ([]++l++[(0,r5,[],[100,101,101,100],r10,())]) (w64 ((1:Int)+r1))) (λr11=>fz m tInt (w64 (r11+1)) λj=>fz m .str [100,101,101,100] λg=>jN m K r6 j r5 [] g r10)))))
def vd (m:Bool)(K:dE→Option C)(l:Λ)(f:(List Int))(d:bi.den):Option C:=cl m tInt (mod2_ev d.2.1 3) λr1=>ck (!(3:Int)=0) (cl m tInt (mod2_ev (w64 (Int.tdiv d.2.1 3)) 3) (λr2=>let a:=sQ (w64 (w64 (il f-1)-r2)) 0;ck (bd a f.length) (ck (!(9:Int)=0) (cl m tInt (mod2_ev (w64 (Int.tdiv d.2.1 9)) 3) (λr3=>cond (r3=0) (ck (!(27:Int)=0) (cl m tInt (mod2_ev (w64 (Int.tdiv d.2.1 27)) (il f)) (λr4=>ck (bd r4 f.length) (ck (lm (List.length ([ix tInt f a]:List Int)+List.length ([ix tInt f r4]:List Int))) (fz m (.slice tInt) ([ix tInt f a]++[ix tInt f r4]) (λg=>mz m K l r1 d g)))))) (fz m (.slice tInt) [ix tInt f a] (λg=>mz m K l r1 d g)))))))
def mA (l:Λ)(f:(List Int))(d:bi.den):Option dE:=vd false some l f d
def Ix:Ent:=evE (.cons (.slice tCommit) (.cons (.slice tInt) (.cons bi .unit))) dD (zero (.cons tCommit (.cons .bool .unit))) λx=>mA x.1 x.2.1 x.2.2.1
def OT:MS:=⟨2,[(0,[.dat tInt,.dat tInt,.dat tInt,.dat tInt]),(1,[.dat tInt,.dat (.slice tInt),.dat (.slice tInt),.dat .str,.dat (.slice tCell)])],[(0,.dat (.slice tCommit)),(5,.keep),(6,.keep),(8,.dat tInt),(10,.own tInt 3)]⟩
def KV:MS:=⟨14,[(0,[.drop,.drop,.drop,.drop]),(1,[.dat tInt,.dat (.slice tInt),.dat (.slice tInt),.dat .str,.dat (.slice tCell)]),(7,[.dat tInt,.dat (.slice tInt),.dat (.slice tInt),.dat .str,.dat (.slice tCell)]),(13,[.dat (.slice ae)])],[(6,.keep),(11,.keep),(12,.keep)]⟩
def Wi:Par:=⟨bF.tab,aE [(31,z8),(56,Sa),(48,K2),(57,SR),(58,GX),(59,Ie)],λ_=>look [(6,OT),(14,KV)],λ_=>look []⟩
def Wh:ai prog 29 (Ix):=evX func29 (S:=Wi) aB (af ⟨mod2_x,abj,TQ,act,T7,V3,ans⟩) (tys:=[tCommit,.bool]) (λf x=>vd true (sm dD) x.1 x.2.1 x.2.2.1) (λx=>by show _=Option.map dD _;simp only[vd,mA,jN,mz,ss])
abbrev fB (C:Type):=(List bi.den)→Λ→(List Int)→Int→Option C
abbrev Ku (C:Type):=(List bi.den)→Int→Λ→(List Int)→Option C
def jH (m:Bool)(K:eo→Option C)(g:fB C):Ku C:=λl i out f=>fz m tInt (w64 (i+1)) λj=>g l out f j
def jG (m:Bool)(K:eo→Option C)(g:fB C):fB C:=λl out f i=>nq m [2,1] (i<il l) (cond (cond (i<il l) (i<9) false) (ck (bd i l.length) (cl m (.cons tCommit (.cons .bool .unit)) (mA out f (ix bi l i)) (λr2=>cond r2.2.1 (cl m (.slice tCommit) (ma out r2.1) (λr3=>ck (lm (List.length f+List.length ([r2.1.1]:List Int))) (fz m (.slice tInt) (f++[r2.1.1]) (λj=>jH m K g l i r3 j)))) (jH m K g l i out f)))) (K out))
def qZ (m:Bool)(K:eo→Option C)(f:fB C)(first:Int)(l:(List bi.den)):Option C:=ce m tCommit true (firstF first) λr1=>fz m (.slice tCommit) [r1] λj=>fz m (.slice tInt) [r1.1] λg=>f l j g 0
def kE:Nat→fB eo:=lp (λ_ _ _ _=>none) λf=>jG false some f
def jI (first:Int)(l:(List bi.den)):Option eo:=qZ false some (kE FU) first l
def EE:Ent:=evE (.cons tInt (.cons (.slice bi) .unit)) eh (zero (.slice tCommit)) λx=>jI x.1 x.2.1
def q9:MS:=⟨0,[],[(1,.dat (.slice bi)),(6,.dat (.slice tCommit)),(7,.own tInt 3),(8,.dat tInt)]⟩
def EF:Par:=⟨bF.tab,aE [(28,N2),(29,Ix),(30,H3)],λ_=>look [(6,q9)],λ_=>look [(5,q9)]⟩
def EG:=h12 EF f8
def kD (f n:Nat):fB AV:=λl out g i=>aW 0 q9 (EG f 0 [1,1,1,1,0,1,0,0]) (am 0 (bc 0 none (EG f 0 [1,1,1,1,1]) H5)) n ⟨mkE 48 [(1,.val (.slice bi) l),(6,.val (.slice tCommit) out),(7,.own 0 0 tInt g),(8,.val tInt i)],mkH 1 [(0,.row tInt 3 0)]⟩
def Kv (f g:Nat):kD f (g+1)=jG true (sm eh) (kD f g):=Φ
def Kw:∀n,kD FU n=mp4 eh (kE n):=co Φ λf _ h=>(Kv FU f).trans (by rw[h];funext _ _ _ _;simp only[jG,jH,ss])
def Q7:ai prog 8 (EE):=evX func8 (S:=EF) aB (af ⟨Ze,Wh,VP,ans⟩) (tys:=[(.slice tCommit)]) (λf x=>qZ true (sm eh) (kD f f) x.1 x.2.1) (λx=>by show _=Option.map eh _;rw[Kw FU];simp only[qZ,jI,jH,ss])
def yM (m:Bool)(K:(List Int)→Option C)(l:Λ):Option C:=cl m (.slice tInt) (pO l) λr1=>K r1
def uS (l:Λ):Option (List Int):=yM false some l
def NU:Ent:=evE (.cons (.slice tCommit) .unit) ar (zero (.slice tInt)) λx=>uS x.1
def Y5:Par:=⟨bF.tab,aE [(80,NS)],λ_=>look [],λ_=>look []⟩
def Y4:ai prog 49 (NU):=evX func49 (S:=Y5) aB (af ⟨Y3,ans⟩) (tys:=[(.slice tInt)]) (λf x=>yM true (sm ar) x.1) (λx=>by show _=Option.map ar _;simp only[yM,uS,ss])
def TR (m:Bool)(K:ag.den→Option C)(l:Λ):Option C:=cl m (.slice tInt) (uS l) λr1=>cl m ag (pY l r1) λr2=>K r2
def FE (l:Λ):Option ag.den:=TR false some l
def aeg:Ent:=evE (.cons (.slice tCommit) .unit) bq (zero ag) λx=>FE x.1
def ahh:Par:=⟨bF.tab,aE [(49,NU),(48,K2)],λ_=>look [],λ_=>look []⟩
def ahg:ai prog 20 (aeg):=evX func20 (S:=ahh) aB (af ⟨Y4,TQ,ans⟩) (tys:=[ag]) (λf x=>TR true (sm bq) x.1) (λx=>by show _=Option.map bq _;simp only[TR,FE,ss])
end
