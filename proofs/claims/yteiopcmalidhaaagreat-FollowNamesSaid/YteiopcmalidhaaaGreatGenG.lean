/- The equations of the program's functions. -/
import Derived.Test.YteiopcmalidhaaaGreatAbs1
import Derived.Test.YteiopcmalidhaaaGreatChecked
set_option linter.all false
noncomputable section
namespace Go.Proofs.YteiopcmalidhaaaGreat
namespace Abs
abbrev tInt:Ty :=.int .i64
abbrev bi:Ty:=.cons tInt (.cons tInt (.cons tInt (.cons tInt .unit)))
abbrev lG:Ty:=(.cons tInt (.cons tInt .unit))
open Go Tryz
section
def kh:TabL:={
 ty:=[(3,tInt),(4,.bool),(5,(.int .u8)),(9,.str),(66,tInt),(343,bi)],
 cells:=[(3,1),(4,1),(5,1),(9,1),(66,1),(343,4)],
 offs:=[((343,0),0),((343,1),1),((343,2),2),((343,3),3)],
 one:=[],
 elem:=[] }
def cO:TabOk prog kh.tab:=TabL.ok Φ
def follows:prog.follows .mixedOrders=true:=Φ
def fi0:FuncId→Option Fi:=λ_=>none
def Zr:∀f x,fi0 f=some x→FiOk prog f x:=λ_ _ h=>by cases h
variable{f:FuncId}{fn:Func}{S:Par}{C:Type}
def evX {R:Type}(P:prog.funcs[f]? = some fn)(C:TabOk prog S.tab)(r:SpecsOk prog S.T){a:Ty}{tys:List Ty}{o:R→AV}{z:R}{g:a.den→Option R}(T:Nat→a.den→Option AV)(p:∀y,T FU y=Option.map o (g y))(J:ux fn=true:=by kernel_rfl)(l:∀j y,sf fi0 hs0 0 (gK fn S) tys j (Uf a y)=T j y:=by intro _ _;kernel_rfl):ai prog f (evE a o z g):=ag9 follows Zr jW P C r T p J l
def nwX (U:prog.funcs[f]? = some fn)(P:TabOk prog S.tab)(J:SpecsOk prog S.T){l a:Ty}{e:TypeId}{g:a.den→Option (List l.den)}(T:Nat→a.den→Option AV)(C:∀y,T FU y=Option.map (λr=>.val (.slice l) r) (g y))(R:ux fn=true:=by kernel_rfl)(p:∀j y,Xy fi0 hs0 0 (gK fn S) l e j (Uf a y)=T j y:=by intro _ _;kernel_rfl):RZ prog f (nwE l a e g):=ag2 follows Zr jW U P J T C R p
def pW (c:Bool)(t:Ty)(x y:t.den):cond c (some (AV.val t x)) (some (AV.val t y))=some (AV.val t (cond c x y)):=by cases c <;> rfl
def nC (c:Int):Bool:=cond (c≥97) (decide (c≤122)) false
def Eq:List (Nat×Ent):=[]
def YN:Par:=⟨kh.tab,aE Eq,λ_=>look [],λ_=>look []⟩
def YM:Code:=(f346.body).getD .skip
def Ny:Fi:=⟨YN,9,[.tmp 2],YM⟩
def yA:KT:=bw kh.tab [.tmp 2] [.bool]
def wP (f:Nat)(c:Int):Option AV:=sf fi0 hs0 0 Ny [.bool] f [.val (.int .u8) c]
def QT (f:Nat)(c:Int):wP f c=cond (be (decide (c≥97)) (decide (c≥97))&&true&&true) (cond (be (decide (c≥97)) (decide (c≥97))&&true) (some (.val .bool (cond (c≥97) (decide (c≤122)) false))) none) none:=Φ
def Vw (f:Nat)(c:Int):wP f c=some (.val .bool (cond (c≥97) (decide (c≤122)) false)):=by simpa only[aL,cE,P?,r?,G',E_,p?,c?,i?,O?,Int.reduceLE,Int.reduceEq,Int.reduceLT,Z']using QT f c
def Vv:dM prog Eq→FiOk prog 346 (Ny):=λh=>⟨⟨f346,func346,rfl,Φ,Φ,Φ⟩,cO,af h⟩
def sS:Ent:=sp1 (.int .u8) (λ_=>true) λf=>.val .bool (nC f)
def QU (l:dM prog Eq)(h:∀(f:Int),∃g,wP g f=some (.val .bool (nC f))):ai prog 346 sS:=ol λf _=>(let ⟨_,j⟩:=h f;bJ follows (λ_ _ h=>by cases h) jW (Vv l) (ds:=[⟨_,f⟩]) j)
def Ep:ai prog 346 sS:=QU trivial (λc=>⟨0,by rw[Vw];first|rfl|(simp only[pW];rfl)⟩)
def iY (c:Int):Bool:=cond (c≥65) (decide (c≤90)) false
def CM:List (Nat×Ent):=[]
def WY:Par:=⟨kh.tab,aE CM,λ_=>look [],λ_=>look []⟩
def WX:Code:=(f347.body).getD .skip
def LC:Fi:=⟨WY,9,[.tmp 2],WX⟩
def wo (f:Nat)(c:Int):Option AV:=sf fi0 hs0 0 LC [.bool] f [.val (.int .u8) c]
def Po (f:Nat)(c:Int):wo f c=cond (be (decide (c≥65)) (decide (c≥65))&&true&&true) (cond (be (decide (c≥65)) (decide (c≥65))&&true) (some (.val .bool (cond (c≥65) (decide (c≤90)) false))) none) none:=Φ
def Uh (f:Nat)(c:Int):wo f c=some (.val .bool (cond (c≥65) (decide (c≤90)) false)):=by simpa only[aL,cE,P?,r?,G',E_,p?,c?,i?,O?,Int.reduceLE,Int.reduceEq,Int.reduceLT,Z']using Po f c
def Ug:dM prog CM→FiOk prog 347 (LC):=λh=>⟨⟨f347,func347,rfl,Φ,Φ,Φ⟩,cO,af h⟩
def oO:Ent:=sp1 (.int .u8) (λ_=>true) λf=>.val .bool (iY f)
def Pp (l:dM prog CM)(h:∀(f:Int),∃g,wo g f=some (.val .bool (iY f))):ai prog 347 oO:=ol λf _=>(let ⟨_,j⟩:=h f;bJ follows (λ_ _ h=>by cases h) jW (Ug l) (ds:=[⟨_,f⟩]) j)
def xv:ai prog 347 oO:=Pp trivial (λc=>⟨0,by rw[Uh];first|rfl|(simp only[pW];rfl)⟩)
def u4 (c:Int):Bool:=cond (c≥48) (decide (c≤57)) false
def Fd:List (Nat×Ent):=[]
def ZT:Par:=⟨kh.tab,aE Fd,λ_=>look [],λ_=>look []⟩
def ZS:Code:=(f345.body).getD .skip
def ON:Fi:=⟨ZT,9,[.tmp 2],ZS⟩
def w7 (f:Nat)(c:Int):Option AV:=sf fi0 hs0 0 ON [.bool] f [.val (.int .u8) c]
def Rz (f:Nat)(c:Int):w7 f c=cond (be (decide (c≥48)) (decide (c≥48))&&true&&true) (cond (be (decide (c≥48)) (decide (c≥48))&&true) (some (.val .bool (cond (c≥48) (decide (c≤57)) false))) none) none:=Φ
def Wb (f:Nat)(c:Int):w7 f c=some (.val .bool (cond (c≥48) (decide (c≤57)) false)):=by simpa only[aL,cE,P?,r?,G',E_,p?,c?,i?,O?,Int.reduceLE,Int.reduceEq,Int.reduceLT,Z']using Rz f c
def Wa:dM prog Fd→FiOk prog 345 (ON):=λh=>⟨⟨f345,func345,rfl,Φ,Φ,Φ⟩,cO,af h⟩
def zb:Ent:=sp1 (.int .u8) (λ_=>true) λf=>.val .bool (u4 f)
def RB (l:dM prog Fd)(h:∀(f:Int),∃g,w7 g f=some (.val .bool (u4 f))):ai prog 345 zb:=ol λf _=>(let ⟨_,j⟩:=h f;bJ follows (λ_ _ h=>by cases h) jW (Wa l) (ds:=[⟨_,f⟩]) j)
def OM:ai prog 345 zb:=RB trivial (λc=>⟨0,by rw[Wb];first|rfl|(simp only[pW];rfl)⟩)
def uP (m:Bool)(K:Bool→Option C)(c:Int):Option C:=ce m .bool true (nC c) λr1=>let a:=cond r1 true (iY c);nq m [2,0] (!r1) (nq m [2,0] (!cond r1 true (iY c)) (nq m [2,0] (!cond a true (u4 c)) (K (cond (cond a true (u4 c)) true (decide (c=95))))))
def iQ (c:Int):Option Bool:=uP false some c
def aa (r:Bool):AV :=.val .bool r
def H7:Ent:=evE (.cons (.int .u8) .unit) aa (zero .bool) λx=>iQ x.1
def VT:Par:=⟨kh.tab,aE [(346,sS),(347,oO),(345,zb)],λ_=>look [],λ_=>look []⟩
def VR:ai prog 410 (H7):=evX func410 (S:=VT) cO (af ⟨Ep,xv,OM,ans⟩) (tys:=[.bool]) (λf x=>uP true (sm aa) x.1) (λx=>by show _=Option.map aa _;simp only[uP,iQ,ss])
def qh (c:Int):Bool:=cond (cond (cond (c=9) true (c=10)) true (c=13)) true (decide (c=32))
def CJ:List (Nat×Ent):=[]
def WU:Par:=⟨kh.tab,aE CJ,λ_=>look [],λ_=>look []⟩
def WT:Code:=(f342.body).getD .skip
def Ls:Fi:=⟨WU,17,[.tmp 2],WT⟩
def wn (f:Nat)(c:Int):Option AV:=sf fi0 hs0 0 Ls [.bool] f [.val (.int .u8) c]
def Pj (f:Nat)(c:Int):wn f c=cond (be (!c=9) (!c=9)&&true&&true) (cond (be (!c=9) (!c=9)) (cond (be (!cond (c=9) true (c=10)) (!cond (c=9) true (c=10))&&true&&true) (cond (be (!cond (c=9) true (c=10)) (!cond (c=9) true (c=10))) (cond (be (!cond (cond (c=9) true (c=10)) true (c=13)) (!cond (cond (c=9) true (c=10)) true (c=13))&&true&&true) (cond (be (!cond (cond (c=9) true (c=10)) true (c=13)) (!cond (cond (c=9) true (c=10)) true (c=13))) (some (.val .bool (cond (cond (cond (c=9) true (c=10)) true (c=13)) true (decide (c=32))))) none) none) none) none) none) none:=Φ
def Uc (f:Nat)(c:Int):wn f c=some (.val .bool (cond (cond (cond (c=9) true (c=10)) true (c=13)) true (decide (c=32)))):=by simpa only[aL,cE,P?,r?,G',E_,p?,c?,i?,O?,Int.reduceLE,Int.reduceEq,Int.reduceLT,Z']using Pj f c
def Ub:dM prog CJ→FiOk prog 342 (Ls):=λh=>⟨⟨f342,func342,rfl,Φ,Φ,Φ⟩,cO,af h⟩
def rO:Ent:=sp1 (.int .u8) (λ_=>true) λf=>.val .bool (qh f)
def Pk (l:dM prog CJ)(h:∀(f:Int),∃g,wn g f=some (.val .bool (qh f))):ai prog 342 rO:=ol λf _=>(let ⟨_,j⟩:=h f;bJ follows (λ_ _ h=>by cases h) jW (Ub l) (ds:=[⟨_,f⟩]) j)
def CI:ai prog 342 rO:=Pk trivial (λc=>⟨0,by rw[Uc];first|rfl|(simp only[pW];rfl)⟩)
def uw (c:Int):Bool:=cond (c≥32) (decide (c≤126)) false
def wE:List (Nat×Ent):=[]
def Qc:Par:=⟨kh.tab,aE wE,λ_=>look [],λ_=>look []⟩
def Qb:Code:=(f344.body).getD .skip
def DE:Fi:=⟨Qc,9,[.tmp 2],Qb⟩
def qH (f:Nat)(c:Int):Option AV:=sf fi0 hs0 0 DE [.bool] f [.val (.int .u8) c]
def JK (f:Nat)(c:Int):qH f c=cond (be (decide (c≥32)) (decide (c≥32))&&true&&true) (cond (be (decide (c≥32)) (decide (c≥32))&&true) (some (.val .bool (cond (c≥32) (decide (c≤126)) false))) none) none:=Φ
def MM (f:Nat)(c:Int):qH f c=some (.val .bool (cond (c≥32) (decide (c≤126)) false)):=by simpa only[aL,cE,P?,r?,G',E_,p?,c?,i?,O?,Int.reduceLE,Int.reduceEq,Int.reduceLT,Z']using JK f c
def ML:dM prog wE→FiOk prog 344 (DE):=λh=>⟨⟨f344,func344,rfl,Φ,Φ,Φ⟩,cO,af h⟩
def qI:Ent:=sp1 (.int .u8) (λ_=>true) λf=>.val .bool (uw f)
def JL (l:dM prog wE)(h:∀(f:Int),∃g,qH g f=some (.val .bool (uw f))):ai prog 344 qI:=ol λf _=>(let ⟨_,j⟩:=h f;bJ follows (λ_ _ h=>by cases h) jW (ML l) (ds:=[⟨_,f⟩]) j)
def DD:ai prog 344 qI:=JL trivial (λc=>⟨0,by rw[MM];first|rfl|(simp only[pW];rfl)⟩)
def rx (m:Bool)(K:Bool→Option C)(c:Int):Option C:=ce m .bool true (qh c) λr1=>nq m [2,0] (!r1) (K (cond r1 true (uw c)))
def fe (c:Int):Option Bool:=rx false some c
def xg:Ent:=evE (.cons (.int .u8) .unit) aa (zero .bool) λx=>fe x.1
def RU:Par:=⟨kh.tab,aE [(342,rO),(344,qI)],λ_=>look [],λ_=>look []⟩
def FG:ai prog 343 (xg):=evX func343 (S:=RU) cO (af ⟨CI,DD,ans⟩) (tys:=[.bool]) (λf x=>rx true (sm aa) x.1) (λx=>by show _=Option.map aa _;simp only[rx,fe,ss])
abbrev bj (C:Type):=Bool→Option C
abbrev aG (C:Type):=Option C
def i5 (m:Bool)(K:Bool→Option C)(f:aG C):bj C:=λg=>cond g (K true) f
def i4 (m:Bool)(K:Bool→Option C):aG C:=(K false)
def nr (m:Bool)(K:Bool→Option C)(f:bj C)(s:Str):Option C:=cond (s=[109,111,100,117,108,101]) (fz m .bool (decide (s=[109,111,100,117,108,101])) (λg=>f g)) (cond (s=[100,101,102]) (fz m .bool (decide (s=[100,101,102])) (λg=>f g)) (cond (s=[116,121,112,101]) (fz m .bool (decide (s=[116,121,112,101])) (λg=>f g)) (cond (s=[108,101,116]) (fz m .bool (decide (s=[108,101,116])) (λg=>f g)) (cond (s=[105,110]) (fz m .bool (decide (s=[105,110])) (λg=>f g)) (cond (s=[105,102]) (fz m .bool (decide (s=[105,102])) (λg=>f g)) (cond (s=[116,104,101,110]) (fz m .bool (decide (s=[116,104,101,110])) (λg=>f g)) (cond (s=[101,108,115,101]) (fz m .bool (decide (s=[101,108,115,101])) (λg=>f g)) (cond (s=[116,114,117,101]) (fz m .bool (decide (s=[116,114,117,101])) (λg=>f g)) (cond (s=[102,97,108,115,101]) (fz m .bool (decide (s=[102,97,108,115,101])) (λg=>f g)) (cond (s=[73,110,116]) (fz m .bool (decide (s=[73,110,116])) (λg=>f g)) (cond (s=[84,101,120,116]) (fz m .bool (decide (s=[84,101,120,116])) (λg=>f g)) (fz m .bool (decide (s=[66,111,111,108])) (λg=>f g)))))))))))))
def gV:aG Bool:=i4 false some
def gW:bj Bool:=i5 false some gV
def cZ (s:Str):Option Bool:=nr false some gW s
def AX:Ent:=evE (.cons .str .unit) aa (zero .bool) λx=>cZ x.1
def sn:MS:=⟨0,[],[(4,.dat .bool)]⟩
def b9:MS:=⟨0,[],[]⟩
def AY:Par:=⟨kh.tab,aE [],λ_=>look [(15,sn),(16,b9)],λ_=>look []⟩
def so (f g:Nat)(p:List Nat):Sg→KT→Option AV:=xc (bN fi0 hs0 f 0) AY g f (sub (f384.body.getD .skip) p)
def lP (f:Nat):bj AV:=λg=>so f 0 [1,0,1,0,1] ⟨mkE 18 [(4,.val .bool g)],mkH 0 []⟩ (am 0 (bc 0 (some b9) (so f 0 [1,1]) yA))
def lO (f:Nat):aG AV:=so f 0 [1,1] ⟨mkE 18 [],mkH 0 []⟩ yA
def Dk (f:Nat):lP f=i5 true (sm aa) (lO f):=Φ
def Di (f:Nat):lO f=i4 true (sm aa):=Φ
def Dj:lO FU=mp0 aa (gV):=(Di FU).trans (by simp only[i4,gV,ss])
def Dm:lP FU=mp1 aa (gW):=(Dk FU).trans (by rw[Dj];funext _;simp only[i5,gW,ss])
def Ml:ai prog 384 (AX):=evX func384 (S:=AY) cO (af trivial) (tys:=[.bool]) (λf x=>nr true (sm aa) (lP f) x.1) (λx=>by show _=Option.map aa _;rw[Dm];simp only[nr,cZ,ss])
abbrev aH (C:Type):=Str→Int→Int→Option C
def YZ (f:Int):Bool:=(iQ f).isSome
def Y0 (f:Int):Bool:=(iQ f).getD (zero .bool)
def rN (m:Bool)(K:Int→Option C)(g:aH C):aH C:=λs l f=>nm m 2 (f<il s) (bd f s.length) (nm m 1 (f<il s) (YZ (ixs s f)) (nq m [1] (f<il s) (cond (cond (f<il s) (Y0 (ixs s f)) false) (fz m tInt (w64 (f+1)) (λj=>g s l j)) (K (w64 (f-l))))))
def BW (m:Bool)(K:Int→Option C)(g:aH C)(s:Str)(f:Int):Option C:=let d:=bd f s.length;let c:=ixs s f;let b:Bool:=!f≥il s;let a:Bool:=!f≥il s&&!nC c;nm m 2 b d (nq m [2,2,2] b (nm m 2 a d (nq m [2,2] a (nm m 0 b (ii a&&true) (nq m [0] b (cond (cond (f≥il s) true (cond (!nC c) (!iY c) false)) (K 0) (g s f f)))))))
def tW:Nat→aH Int:=lp (λ_ _ _=>none) λf=>rN false some f
def jd (s:Str)(f:Int):Option Int:=BW false some (tW FU) s f
def aA (r:Int):AV :=.val tInt r
def R2:Ent:=evE (.cons .str (.cons tInt .unit)) aA (zero tInt) λx=>jd x.1 x.2.1
def GZ:MS:=⟨0,[],[(0,.dat .str),(1,.dat tInt),(5,.dat tInt)]⟩
def R3:Par:=⟨kh.tab,aE [(346,sS),(347,oO),(410,H7)],λ_=>look [],λ_=>look [(4,GZ)]⟩
def I1:KT:=bw kh.tab [.tmp 4] [tInt]
def R4 (f g:Nat)(p:List Nat):Sg→KT→Option AV:=xc (bN fi0 hs0 f 0) R3 g f (sub (f383.body.getD .skip) p)
def tV (f n:Nat):aH AV:=λs j g=>aW 0 GZ (R4 f 0 [1,1,1,0,0,0]) (am 0 (bc 0 none (R4 f 0 [1,1,1,1]) I1)) n ⟨mkE 40 [(0,.val .str s),(1,.val tInt j),(5,.val tInt g)],mkH 0 []⟩
def T9 (f g:Nat):tV f (g+1)=rN true (sm aA) (tV f g):=Φ
def Ua:∀n,tV FU n=mp3 aA (tW n):=co Φ λf _ h=>(T9 FU f).trans (by rw[h];funext _ _ _;simp only[rN,ss])
def abd:ai prog 383 (R2):=evX func383 (S:=R3) cO (af ⟨Ep,xv,VR,ans⟩) (tys:=[tInt]) (λf x=>BW true (sm aA) (tV f f) x.1 x.2.1) (λx=>by show _=Option.map aA _;rw[Ua FU];simp only[BW,jd,ss])
def uk (m:Bool)(K:Int→Option C)(f:aG C):bj C:=λg=>cond g (K 1) f
def uj (m:Bool)(K:Int→Option C):aG C:=(K 0)
def B1 (m:Bool)(K:Int→Option C)(p:bj C)(s:Str)(J:Int):Option C:=let l:=w64 (J+1);let k:Bool:=ixs s J=60;let j:Bool:=ixs s J=42;let i:Bool:=ixs s J=45;let h:Bool:=ixs s J=43;let g:Bool:=ixs s J=44;let f:Bool:=ixs s J=58;let e:Bool:=ixs s J=93;let d:Bool:=ixs s J=91;let c:Bool:=ixs s J=41;let b:Bool:=ixs s J=40;let a:Bool:=w64 (J+1)<il s;ck (bd J s.length) (cond (ixs s J=61) (nq m [2] a (nm m 2 a (bd l s.length) (nq m [2,1] a (cond (cond a (ixs s l=61) false) (K 2) (K 1))))) (cond b (fz m .bool b (λr=>p r)) (cond c (fz m .bool c (λr=>p r)) (cond d (fz m .bool d (λr=>p r)) (cond e (fz m .bool e (λr=>p r)) (cond f (fz m .bool f (λr=>p r)) (cond g (fz m .bool g (λr=>p r)) (cond h (fz m .bool h (λr=>p r)) (cond i (fz m .bool i (λr=>p r)) (cond j (fz m .bool j (λr=>p r)) (cond k (fz m .bool k (λr=>p r)) (fz m .bool (decide (ixs s J=63)) (λr=>p r)))))))))))))
def qv:aG Int:=uj false some
def qw:bj Int:=uk false some qv
def rY (s:Str)(f:Int):Option Int:=B1 false some qw s f
def Sk:Ent:=evE (.cons .str (.cons tInt .unit)) aA (zero tInt) λx=>rY x.1 x.2.1
def PE:MS:=⟨0,[],[(22,.dat .bool)]⟩
def Sl:Par:=⟨kh.tab,aE [],λ_=>look [(17,PE),(18,b9)],λ_=>look []⟩
def Jd (f g:Nat)(p:List Nat):Sg→KT→Option AV:=xc (bN fi0 hs0 f 0) Sl g f (sub (f349.body.getD .skip) p)
def wy (f:Nat):bj AV:=λg=>Jd f 0 [1,0,1,0,1,1,1] ⟨mkE 34 [(22,.val .bool g)],mkH 0 []⟩ (am 0 (bc 0 (some b9) (Jd f 0 [1,1]) I1))
def ww (f:Nat):aG AV:=Jd f 0 [1,1] ⟨mkE 34 [],mkH 0 []⟩ I1
def PH (f:Nat):wy f=uk true (sm aA) (ww f):=Φ
def PF (f:Nat):ww f=uj true (sm aA):=Φ
def PG:ww FU=mp0 aA (qv):=(PF FU).trans (by simp only[uj,qv,ss])
def PI:wy FU=mp1 aA (qw):=(PH FU).trans (by rw[PG];funext _;simp only[uk,qw,ss])
def abm:ai prog 349 (Sk):=evX func349 (S:=Sl) cO (af trivial) (tys:=[tInt]) (λf x=>B1 true (sm aA) (wy f) x.1 x.2.1) (λx=>by show _=Option.map aA _;rw[PI];simp only[B1,rY,ss])
abbrev Ln (C:Type):=Int→Int→Int→Str→Int→Option C
def qg (m:Bool)(K:bi.den→Option C):Ln C:=λg r1 r3 s f=>let a:=w64 (g+r1)+1;nq m [2,0] (!r1>24) (cond (cond (r1>24) true (r3>24)) (K (0,0,3,g,())) (cl m .bool (cZ ((List.take (Int.toNat (w64 (w64 a+r3))) s).drop (Int.toNat (w64 a)))) (λr7=>cond r7 (K (0,0,2,g,())) (K (w64 (w64 (r1+1)+r3),f,0,0,())))))
def PZ (f:Str):Bool:=(cZ f).isSome
def gc (f:Str):Bool:=(cZ f).getD (zero .bool)
def WS (g:Str)(f:Int):Bool:=(jd g f).isSome
def I2 (g:Str)(f:Int):Int:=(jd g f).getD (zero tInt)
def xo (m:Bool)(K:bi.den→Option C)(s:Str)(p:Int):Option C:=let l:=iY (ixs s p);let k:=bd p s.length;let g:=Int.toNat p;cl m tInt (jd s p) λr1=>let h:=w64 (p+r1);let c:=List.take (Int.toNat h) s;let b:=w64 (p+r1)+1;let i:=w64 b;let n:=Int.toNat i;ck (0≤p&&p≤w64 (p+r1)&&w64 (p+r1)≤(s.length:Int)) (ck k (ce m .bool true l (λr2=>let e:Bool:=cond r2 (!gc (c.drop g)) false;let a:Bool:=cond e (w64 b<il s) false;let d:Bool:=cond a (ixs s h=46) false;nm m 1 r2 (PZ (c.drop g)) (nq m [2,1] r2 (nq m [2,2,3,1] e (nm m 2 a (bd h s.length) (nq m [2,1] a (nq m [2] d (nm m 2 d (WS s i) (nq m [2,1] d (cond (cond d (I2 s i>0) false) (cl m tInt (jd s i) (λr3=>let j:=w64 b+r3;let f:=List.take (Int.toNat (w64 j)) s;ck (0≤w64 b&&w64 b≤w64 j&&w64 j≤(s.length:Int)) (ck (bd 0 (f.drop n).length) (ce m .bool true (iY (ixs (f.drop n) 0)) (λr4=>cond r4 (qg m K p r1 r3 s 4) (qg m K p r1 r3 s 3)))))) (cond (r1>24) (K (0,0,3,p,())) (cl m .bool (cZ (c.drop g)) (λr5=>cond r5 (K (r1,7,0,0,())) (ck k (ce m .bool true l (λr6=>cond r6 (K (r1,2,0,0,())) (K (r1,1,0,0,())))))))))))))))))))
def oL (s:Str)(f:Int):Option bi.den:=xo false some s f
def fH (r:bi.den):AV :=.val bi r
def Lp:Ent:=evE (.cons .str (.cons tInt .unit)) fH (zero bi) λx=>oL x.1 x.2.1
def Lo:MS:=⟨1,[(0,[.dat tInt,.dat tInt,.dat tInt,.dat tInt])],[(1,.dat tInt),(4,.keep),(5,.dat tInt),(8,.dat tInt),(9,.dat .str),(10,.dat tInt)]⟩
def WO:Par:=⟨kh.tab,aE [(383,R2),(347,oO),(384,AX)],λ_=>look [(10,Lo)],λ_=>look []⟩
def WN:ai prog 348 (Lp):=evX func348 (S:=WO) cO (af ⟨abd,xv,Ml,ans⟩) (tys:=[bi]) (λf x=>xo true (sm fH) x.1 x.2.1) (λx=>by show _=Option.map fH _;simp only[xo,oL,qg,ss])
def sG (m:Bool)(K:bi.den→Option C)(g:aH C):aH C:=λs l f=>let b:=K (0,0,2,l,());let a:=bd f s.length;cond (f<il s) (ck a (cond (ixs s f=34) (K (w64 (w64 (f+1)-l),6,0,0,())) (ck a (cl m .bool (fe (ixs s f)) (λr6=>cond (!r6) (K (0,0,1,f,())) (ck a (ce m .bool true (uw (ixs s f)) (λr7=>nm m 2 (!!r7) a (nq m [2,0] (!!r7) (cond (cond (!r7) true (ixs s f=92)) b (fz m tInt (w64 (f+1)) (λj=>g s l j)))))))))))) b
def pj (m:Bool)(K:bi.den→Option C)(j:aH C):aH C:=λs g f=>let a:Bool:=w64 (f-g)>1;nm m 2 (f<il s) (bd f s.length) (nq m [2,1] (f<il s) (cond (cond (f<il s) (u4 (ixs s f)) false) (fz m tInt (w64 (f+1)) (λl=>j s g l)) (nq m [2,1] a (cond (cond a (ixs s g=48) false) (K (0,0,2,g,())) (cond (w64 (f-g)>15) (K (0,0,3,g,())) (K (w64 (f-g),5,0,0,())))))))
def Cc (m:Bool)(K:bi.den→Option C)(j:aH C)(g:aH C)(s:Str)(f:Int):Option C:=let a:=ixs s f;ck (bd f s.length) (cl m .bool (fe a) (λr1=>cond (!r1) (K (0,0,1,f,())) (cond (ixs s f=34) (fz m tInt (w64 (f+1)) (λl=>j s f l)) (ce m .bool true (u4 a) (λr2=>cond r2 (g s f f) (ce m .bool true (nC a) (λr3=>nq m [2,0] (!r3) (cond (cond r3 true (iY a)) (cl m bi (oL s f) (λr4=>K r4)) (cl m tInt (rY s f) (λr5=>cond (r5=0) (K (0,0,2,f,())) (K (r5,8,0,0,()))))))))))))
def uA:Nat→aH bi.den:=lp (λ_ _ _=>none) λf=>sG false some f
def qO:Nat→aH bi.den:=lp (λ_ _ _=>none) λf=>pj false some f
def sH (s:Str)(f:Int):Option bi.den:=Cc false some (uA FU) (qO FU) s f
def SO:Ent:=evE (.cons .str (.cons tInt .unit)) fH (zero bi) λx=>sH x.1 x.2.1
def HM:MS:=⟨1,[(0,[.dat tInt,.dat tInt,.dat tInt,.dat tInt])],[(0,.dat .str),(1,.dat tInt),(4,.keep),(6,.dat tInt)]⟩
def Ec:MS:=⟨1,[(0,[.dat tInt,.dat tInt,.dat tInt,.dat tInt])],[(0,.dat .str),(1,.dat tInt),(4,.keep),(5,.dat (.int .u8)),(7,.dat tInt)]⟩
def SP:Par:=⟨kh.tab,aE [(343,xg),(345,zb),(346,sS),(347,oO),(348,Lp),(349,Sk),(344,qI)],λ_=>look [],λ_=>look [(6,HM),(17,Ec)]⟩
def SQ:KT:=bw kh.tab [.cell 4 343] [bi]
def uB (f g:Nat)(p:List Nat):Sg→KT→Option AV:=xc (bN fi0 hs0 f 0) SP g f (sub (f298.body.getD .skip) p)
def uz (f n:Nat):aH AV:=λs j g=>aW 0 HM (uB f 0 [1,1,0,0,1,1,1,0,0,1,0,0]) (am 1 (bc 0 none (uB f 0 [1,1,0,0,1,1,1,0,1]) (am 0 (bc 0 none (uB f 0 [1,1,1]) SQ)))) n ⟨mkE 120 [(0,.val .str s),(1,.val tInt j),(4,.box 0 0),(6,.val tInt g)],mkH 1 [(0,.box [.val tInt (0:Int),.val tInt (0:Int),.val tInt (0:Int),.val tInt (0:Int)])]⟩
def qN (f n:Nat):aH AV:=λs g j=>aW 0 Ec (uB f 0 [1,1,0,0,1,1,1,1,1,0,1,0,0,0]) (am 4 (bc 0 none (uB f 0 [1,1,0,0,1,1,1,1,1,0,1,1]) (am 0 (bc 0 none (uB f 0 [1,1,1]) SQ)))) n ⟨mkE 120 [(0,.val .str s),(1,.val tInt g),(4,.box 0 0),(5,.val (.int .u8) (ixs s g)),(7,.val tInt j)],mkH 1 [(0,.box [.val tInt (0:Int),.val tInt (0:Int),.val tInt (0:Int),.val tInt (0:Int)])]⟩
def Vi (f g:Nat):uz f (g+1)=sG true (sm fH) (uz f g):=Φ
def QD (f g:Nat):qN f (g+1)=pj true (sm fH) (qN f g):=Φ
def Vj:∀n,uz FU n=mp3 fH (uA n):=co Φ λf _ h=>(Vi FU f).trans (by rw[h];funext _ _ _;simp only[sG,ss])
def QE:∀n,qN FU n=mp3 fH (qO n):=co Φ λf _ h=>(QD FU f).trans (by rw[h];funext _ _ _;simp only[pj,ss])
def acs:ai prog 298 (SO):=evX func298 (S:=SP) cO (af ⟨FG,OM,Ep,xv,WN,abm,DD,ans⟩) (tys:=[bi]) (λf x=>Cc true (sm fH) (uz f f) (qN f f) x.1 x.2.1) (λx=>by show _=Option.map fH _;rw[Vj FU,QE FU];simp only[Cc,sH,ss])
def sW (m:Bool)(K:lG.den→Option C)(j:aH C)(g:aH C):aH C:=λs l f=>let a:=bd f s.length;cond (f<il s) (ck a (ce m .bool true (qh (ixs s f)) (λr1=>cond r1 (fz m tInt (w64 (f+1)) (λp=>j s l p)) (ck a (cond (ixs s f=35) (g s l f) (K (w64 (f-l),(-1:Int),()))))))) (K (w64 (f-l),(-1:Int),()))
def sV (m:Bool)(K:lG.den→Option C)(g:aH C)(j:aH C):aH C:=λs p f=>let a:=bd f s.length;nm m 2 (f<il s) a (nq m [2,1] (f<il s) (cond (cond (f<il s) (!ixs s f=10) false) (ck a (cl m .bool (fe (ixs s f)) (λr2=>cond (!r2) (K (w64 (f-p),f,())) (fz m tInt (w64 (f+1)) (λl=>g s p l))))) (j s p f)))
def Ce (m:Bool)(K:lG.den→Option C)(f:aH C)(s:Str)(g:Int):Option C:=f s g g
def pG (g:aH lG.den):Nat→aH lG.den:=lp (λ_ _ _=>none) λf=>sV false some f g
def pH:Nat→aH lG.den:=lp (λ_ _ _=>none) λf=>sW false some f (pG f FU)
def sX (s:Str)(f:Int):Option lG.den:=Ce false some (pH FU) s f
def nD (r:lG.den):AV :=.tup (dF [.val tInt r.1,.val tInt r.2.1])
def SX:Ent:=evE (.cons .str (.cons tInt .unit)) nD (zero lG) λx=>sX x.1 x.2.1
def pF:MS:=⟨0,[],[(0,.dat .str),(1,.dat tInt),(6,.dat tInt)]⟩
def SY:Par:=⟨kh.tab,aE [(342,rO),(343,xg)],λ_=>look [],λ_=>look [(2,pF),(7,pF)]⟩
def SZ:KT:=bw kh.tab [.tmp 4,.tmp 5] [tInt,tInt]
def yB (f g:Nat)(p:List Nat):Sg→KT→Option AV:=xc (bN fi0 hs0 f 0) SY g f (sub (f297.body.getD .skip) p)
def kU (f n:Nat):aH AV:=λs j g=>aW 0 pF (yB f 0 [1,1,0,0,0]) (am 0 (bc 0 none (yB f 0 [1,1,1]) SZ)) n ⟨mkE 51 [(0,.val .str s),(1,.val tInt j),(6,.val tInt g)],mkH 0 []⟩
def uI (f l n:Nat):aH AV:=λs j g=>aW 0 pF (yB f 0 [1,1,0,0,0,1,0,0,1,1,1,0,0,0]) (am 3 (am 2 (am 1 (kLp 0 pF (yB f 0 [1,1,0,0,0]) (am 0 (bc 0 none (yB f 0 [1,1,1]) SZ)) l)))) n ⟨mkE 51 [(0,.val .str s),(1,.val tInt j),(6,.val tInt g)],mkH 0 []⟩
def VC (f g:Nat):kU f (g+1)=sW true (sm nD) (kU f g) (uI f g f):=Φ
def Vz (f g j:Nat):uI f g (j+1)=sV true (sm nD) (uI f g j) (kU f g):=Φ
def VB (j:Nat){f:aH lG.den}(g:kU FU j=mp3 nD f):∀n,uI FU j n=mp3 nD (pG f n):=co Φ λl _ h=>(Vz FU j l).trans (by rw[h,g];funext _ _ _;simp only[sV,ss])
def VD:∀n,kU FU n=mp3 nD (pH n):=co Φ λf _ h=>(VC FU f).trans (by rw[h,VB f h FU];funext _ _ _;simp only[sW,ss])
def acA:ai prog 297 (SX):=evX func297 (S:=SY) cO (af ⟨CI,FG,ans⟩) (tys:=[tInt,tInt]) (λf x=>Ce true (sm nD) (kU f f) x.1 x.2.1) (λx=>by show _=Option.map nD _;rw[VD FU];simp only[Ce,sX,ss])
def yG (m:Bool)(K:Bool→Option C)(f:aG C):bj C:=λg=>cond g (K true) f
def yF (m:Bool)(K:Bool→Option C):aG C:=(K false)
def Ci (m:Bool)(K:Bool→Option C)(g:bj C)(s:Str):Option C:=cond (s=[43]) (fz m .bool (decide (s=[43])) (λf=>g f)) (cond (s=[45]) (fz m .bool (decide (s=[45])) (λf=>g f)) (cond (s=[42]) (fz m .bool (decide (s=[42])) (λf=>g f)) (cond (s=[60]) (fz m .bool (decide (s=[60])) (λf=>g f)) (fz m .bool (decide (s=[61,61])) (λf=>g f)))))
def uM:aG Bool:=yF false some
def uN:bj Bool:=yG false some uM
def sZ (s:Str):Option Bool:=Ci false some uN s
def S8:Ent:=evE (.cons .str .unit) aa (zero .bool) λx=>sZ x.1
def S9:Par:=⟨kh.tab,aE [],λ_=>look [(7,sn),(8,b9)],λ_=>look []⟩
def Kn (f g:Nat)(p:List Nat):Sg→KT→Option AV:=xc (bN fi0 hs0 f 0) S9 g f (sub (f352.body.getD .skip) p)
def Af (f:Nat):bj AV:=λg=>Kn f 0 [1,0,1,0,1] ⟨mkE 10 [(4,.val .bool g)],mkH 0 []⟩ (am 0 (bc 0 (some b9) (Kn f 0 [1,1]) yA))
def Ae (f:Nat):aG AV:=Kn f 0 [1,1] ⟨mkE 10 [],mkH 0 []⟩ yA
def VJ (f:Nat):Af f=yG true (sm aa) (Ae f):=Φ
def VH (f:Nat):Ae f=yF true (sm aa):=Φ
def VI:Ae FU=mp0 aa (uM):=(VH FU).trans (by simp only[yF,uM,ss])
def VK:Af FU=mp1 aa (uN):=(VJ FU).trans (by rw[VI];funext _;simp only[yG,uN,ss])
def acC:ai prog 352 (S8):=evX func352 (S:=S9) cO (af trivial) (tys:=[.bool]) (λf x=>Ci true (sm aa) (Af f) x.1) (λx=>by show _=Option.map aa _;rw[VK];simp only[Ci,sZ,ss])
def Ke (m:Bool)(K:Int→Option C)(x:Int)(f:Int):Option C:=cond (f<1) (K 0) (ck (!f=0) (ck (!f=0) (K (Int.tmod (w64 (Int.tmod x f+f)) f))))
def mod2_ev (x:Int)(f:Int):Option Int:=Ke false some x f
def z8:Ent:=evE (.cons tInt (.cons tInt .unit)) aA (zero tInt) λx=>mod2_ev x.1 x.2.1
def afk:Par:=⟨kh.tab,aE [],λ_=>look [],λ_=>look []⟩
def mod2_x:ai prog 31 (z8):=evX func31 (S:=afk) cO (af trivial) (tys:=[tInt]) (λf x=>Ke true (sm aA) x.1 x.2.1) (λx=>by show _=Option.map aA _;simp only[Ke,mod2_ev,ss])
def zk (m:Bool)(K:Int→Option C)(text:Str):Option C:=let c:=qh (ixs text 0);let b:=bd 0 text.length;let a:Bool:=!cond (text=[]) true c;nm m 1 (!text=[]) b (nq m [2,0] (!text=[]) (nm m 1 a b (nq m [2,0] a (cond (cond (cond (text=[]) true c) true (ixs text 0=35)) (K 0) (cl m bi (sH text 0) (λr1=>nq m [2,2,3,0] (!!r1.2.2.1=0) (cond (cond (!r1.2.2.1=0) true (!r1.1=il text)) (K 0) (K r1.2.1))))))))
def kZ (text:Str):Option Int:=zk false some text
def Fr:Ent:=evE (.cons .str .unit) aA (zero tInt) λx=>kZ x.1
def aag:Par:=⟨kh.tab,aE [(342,rO),(298,SO)],λ_=>look [],λ_=>look []⟩
def OV:ai prog 306 (Fr):=evX func306 (S:=aag) cO (af ⟨CI,acs,ans⟩) (tys:=[tInt]) (λf x=>zk true (sm aA) x.1) (λx=>by show _=Option.map aA _;simp only[zk,kZ,ss])
abbrev eK (C:Type):=Str→Bool→Int→Option C
abbrev xy (C:Type):=Str→Int→Bool→Option C
def lC (m:Bool)(K:Bool→Option C)(g:eK C):xy C:=λs i f=>fz m tInt (w64 (i+1)) λj=>g s f j
def jg (m:Bool)(K:Bool→Option C)(g:eK C):xy C:=λs i f=>ck (bd i s.length) (cond (ixs s i=10) (lC m K g s i false) (lC m K g s i f))
def lB (m:Bool)(K:Bool→Option C)(g:eK C):eK C:=λs f i=>cond (i<il s) (ck (bd i s.length) (cond (ixs s i=35) (jg m K g s i true) (jg m K g s i f))) (K (!f))
def ub (m:Bool)(K:Bool→Option C)(f:eK C)(s:Str)(g:Bool):Option C:=cl m lG (sX s 0) λr1=>nq m [2,3,0] (!r1.2.1≥0) (cond (cond (r1.2.1≥0) true (r1.1<il s)) (K false) (cond g (K true) (f s false 0)))
def na:Nat→eK Bool:=lp (λ_ _ _=>none) λf=>lB false some f
def iC (s:Str)(f:Bool):Option Bool:=ub false some (na FU) s f
def G8:Ent:=evE (.cons .str (.cons .bool .unit)) aa (zero .bool) λx=>iC x.1 x.2.1
def m0:MS:=⟨0,[],[(0,.dat .str),(7,.dat .bool),(8,.dat tInt)]⟩
def G9:Par:=⟨kh.tab,aE [(297,SX)],λ_=>look [(12,m0),(9,m0)],λ_=>look [(8,m0)]⟩
def Uk:KT:=bw kh.tab [.tmp 4] [.bool]
def Ha (f g:Nat)(p:List Nat):Sg→KT→Option AV:=xc (bN fi0 hs0 f 0) G9 g f (sub (f308.body.getD .skip) p)
def m9 (g n:Nat):eK AV:=λs f i=>aW 0 m0 (Ha g 0 [1,1,1,1,1,0,1,0,0]) (am 0 (bc 0 none (Ha g 0 [1,1,1,1,1,1]) Uk)) n ⟨mkE 39 [(0,.val .str s),(7,.val .bool f),(8,.val tInt i)],mkH 0 []⟩
def LJ (f g:Nat):m9 f (g+1)=lB true (sm aa) (m9 f g):=Φ
def LK:∀n,m9 FU n=mp3 aa (na n):=co Φ λf _ h=>(LJ FU f).trans (by rw[h];funext _ _ _;simp only[lB,jg,lC,ss])
def Uj:ai prog 308 (G8):=evX func308 (S:=G9) cO (af ⟨acA,ans⟩) (tys:=[.bool]) (λf x=>ub true (sm aa) (m9 f f) x.1 x.2.1) (λx=>by show _=Option.map aa _;rw[LK FU];simp only[ub,iC,jg,lC,ss])
abbrev vG (C:Type):=Str→Int→Int→Bool→Option C
abbrev CR (C:Type):=Str→Option C
def od (m:Bool)(K:Bool→Option C):CR C:=λs=>K (decide (s=[]))
def d7 (m:Bool)(K:Bool→Option C):vG C:=λs r1 f g=>cond g (K (decide (r1=1))) (cond (f=9) (nq m [2,0] (!r1=2) (K (cond (r1=2) true (decide (r1=4))))) (cond (f=16) (nq m [2,0] (!r1=1) (K (cond (r1=1) true (decide (r1=3))))) (cond (f=10) (K (decide (r1=5))) (cond (f=11) (K (decide (r1=6))) (cond (f=21) (cl m .bool (sZ s) (λr2=>K r2)) (od m K s))))))
def kg (m:Bool)(K:Bool→Option C):vG C:=λs r1 f j=>cond j (K (decide (r1=2))) (cond (f=2) (fz m .bool (decide (f=2)) (λg=>d7 m K s r1 f g)) (cond (f=4) (fz m .bool (decide (f=4)) (λg=>d7 m K s r1 f g)) (cond (f=12) (fz m .bool (decide (f=12)) (λg=>d7 m K s r1 f g)) (fz m .bool (decide (f=20)) (λg=>d7 m K s r1 f g)))))
def nb (m:Bool)(K:Bool→Option C)(f:Int)(s:Str):Option C:=cl m tInt (kZ s) λr1=>cond (f=1) (fz m .bool (decide (f=1)) (λg=>kg m K s r1 f g)) (fz m .bool (decide (f=3)) (λg=>kg m K s r1 f g))
def gR (f:Int)(s:Str):Option Bool:=nb false some f s
def AO:Ent:=evE (.cons tInt (.cons .str .unit)) aa (zero .bool) λx=>gR x.1 x.2.1
def FW:MS:=⟨0,[],[(1,.dat .str),(5,.dat tInt),(8,.dat tInt),(9,.dat .bool)]⟩
def CT:MS:=⟨0,[],[(1,.dat .str),(5,.dat tInt),(8,.dat tInt),(14,.dat .bool)]⟩
def CS:MS:=⟨0,[],[(1,.dat .str)]⟩
def LO:Par:=⟨kh.tab,aE [(306,Fr),(352,S8)],λ_=>look [(5,FW),(10,CT),(21,CS)],λ_=>look []⟩
def LN:ai prog 339 (AO):=evX func339 (S:=LO) cO (af ⟨OV,acC,ans⟩) (tys:=[.bool]) (λf x=>nb true (sm aa) x.1 x.2.1) (λx=>by show _=Option.map aa _;simp only[nb,gR,d7,od,kg,ss])
end
abbrev aM:Ty:=.cons tInt (.cons .bool (.cons .str (.cons tInt .unit)))
abbrev tCell:Ty:=(.cons tInt (.cons tInt (.cons aM .unit)))
abbrev Υ:=List tCell.den
abbrev tCommit:Ty:=.cons tInt (.cons (.slice tInt) (.cons (.slice tInt) (.cons .str (.cons (.slice tCell) .unit))))
abbrev Λ:=List tCommit.den
abbrev aN:Ty:=(.cons (.slice tCell) .unit)
def fce (i:Nat)(f n:Int)(s:List Nat)(r:Nat):tCell.den:=(Int.ofNat (Nat.add 1048576 i),f,(n,false,s.map UInt8.ofNat,(match r with|0=>0|r+1=>Int.ofNat (Nat.add 1048577 r)),()),())
def fst0:tCommit.den:=(1048594,[],[],[102,105,114,115,116],[fce 1 1 1 [] 0,fce 1 2 1 [] 0,fce 1 3 0 [77] 0,fce 1 9 0 [32] 0,fce 1 10 0 [10] 0,fce 2 1 2 [] 0,fce 2 2 0 [105,114] 1,fce 2 3 0 [102] 0,fce 2 8 0 [10] 0,fce 2 9 0 [32] 0,fce 2 13 0 [32] 0,fce 3 1 4 [] 0,fce 3 2 0 [105,114] 2,fce 3 3 0 [120] 0,fce 4 1 5 [] 0,fce 4 2 1 [] 3,fce 4 4 5 [] 0,fce 4 8 0 [32] 0,fce 5 1 4 [] 0,fce 5 2 0 [114,105] 2,fce 5 3 0 [121] 0,fce 5 8 0 [32] 0,fce 6 1 5 [] 0,fce 6 2 1 [] 5,fce 6 4 5 [] 0,fce 6 8 0 [32] 0,fce 7 1 5 [] 0,fce 7 2 1 [] 2,fce 7 4 5 [] 0,fce 7 8 0 [32] 0,fce 8 1 5 [] 0,fce 8 2 2 [] 2,fce 8 4 21 [43] 0,fce 8 8 0 [32] 0,fce 9 1 5 [] 0,fce 9 2 1 [] 8,fce 9 4 12 [] 3,fce 9 8 0 [32] 0,fce 10 1 5 [] 0,fce 10 2 2 [] 8,fce 10 4 12 [] 5,fce 10 8 0 [32] 0,fce 11 1 2 [] 0,fce 11 2 0 [114,105] 1,fce 11 3 0 [103] 0,fce 11 8 0 [10] 0,fce 11 9 0 [32] 0,fce 11 13 0 [32] 0,fce 12 1 5 [] 0,fce 12 2 1 [] 11,fce 12 4 5 [] 0,fce 12 8 0 [32] 0,fce 13 1 5 [] 0,fce 13 2 2 [] 11,fce 13 4 16 [] 2,fce 13 8 0 [32] 0,fce 14 1 5 [] 0,fce 14 2 0 [105,114] 13,fce 14 4 17 [] 3,fce 15 1 5 [] 0,fce 15 2 1 [] 14,fce 15 4 10 [49] 0,fce 16 1 5 [] 0,fce 16 2 0 [114,105] 13,fce 16 4 17 [] 5,fce 17 1 5 [] 0,fce 17 2 1 [] 16,fce 17 4 10 [50] 0,fce 17 8 0 [32] 0],())
def fst1:tCommit.den:=(1048589,[],[],[102,105,114,115,116],[fce 1 1 1 [] 0,fce 1 2 1 [] 0,fce 1 3 0 [77] 0,fce 1 9 0 [32] 0,fce 1 10 0 [32,35,32,99,10] 0,fce 2 1 2 [] 0,fce 2 2 0 [110,98] 1,fce 2 3 0 [102] 0,fce 2 8 0 [10] 0,fce 2 9 0 [32] 0,fce 2 13 0 [32] 0,fce 3 1 4 [] 0,fce 3 2 0 [110,98] 2,fce 3 3 0 [120] 0,fce 4 1 5 [] 0,fce 4 2 1 [] 3,fce 4 4 5 [] 0,fce 4 8 0 [32] 0,fce 5 1 5 [] 0,fce 5 2 1 [] 2,fce 5 4 5 [] 0,fce 5 8 0 [32] 0,fce 6 1 5 [] 0,fce 6 2 2 [] 2,fce 6 4 12 [] 3,fce 6 8 0 [32] 0,fce 7 1 1 [] 0,fce 7 2 1 [] 0,fce 7 3 0 [78] 0,fce 7 9 0 [32] 0,fce 7 10 0 [10] 0,fce 8 1 2 [] 0,fce 8 2 0 [110,98] 7,fce 8 3 0 [107] 0,fce 8 8 0 [10] 0,fce 8 9 0 [32] 0,fce 8 13 0 [32] 0,fce 9 1 5 [] 0,fce 9 2 1 [] 8,fce 9 4 5 [] 0,fce 9 8 0 [32] 0,fce 10 1 5 [] 0,fce 10 2 2 [] 8,fce 10 4 16 [] 2,fce 10 8 0 [32] 0,fce 11 1 5 [] 0,fce 11 2 0 [110,98] 10,fce 11 4 17 [] 3,fce 12 1 5 [] 0,fce 12 2 1 [] 11,fce 12 4 10 [55] 0],())
def fst2:tCommit.den:=(1048588,[],[],[102,105,114,115,116],[fce 1 1 1 [] 0,fce 1 2 1 [] 0,fce 1 3 0 [77] 0,fce 1 9 0 [32] 0,fce 2 1 3 [] 0,fce 2 2 0 [105,114] 1,fce 2 3 0 [84] 0,fce 2 8 0 [32] 0,fce 2 9 0 [32] 0,fce 2 10 0 [32] 0,fce 3 1 5 [] 0,fce 3 2 1 [] 2,fce 3 4 8 [] 0,fce 3 8 0 [32] 0,fce 4 1 5 [] 0,fce 4 2 1 [] 3,fce 4 4 5 [] 0,fce 5 1 2 [] 0,fce 5 2 0 [114,105] 1,fce 5 3 0 [104] 0,fce 5 8 0 [32] 0,fce 5 9 0 [32] 0,fce 5 13 0 [32] 0,fce 6 1 4 [] 0,fce 6 2 0 [110,98] 5,fce 6 3 0 [97] 0,fce 7 1 5 [] 0,fce 7 2 1 [] 6,fce 7 4 9 [] 2,fce 7 8 0 [32] 0,fce 8 1 5 [] 0,fce 8 2 1 [] 5,fce 8 4 9 [] 2,fce 8 8 0 [32] 0,fce 9 1 5 [] 0,fce 9 2 2 [] 5,fce 9 4 18 [] 0,fce 9 8 0 [32] 0,fce 10 1 5 [] 0,fce 10 2 0 [105,114] 9,fce 10 4 10 [49] 0,fce 11 1 5 [] 0,fce 11 2 0 [114,105] 9,fce 11 4 10 [50] 0,fce 11 8 0 [32] 0],())
def fst3:tCommit.den:=(1048588,[],[],[102,105,114,115,116],[fce 1 1 1 [] 0,fce 1 2 1 [] 0,fce 1 3 0 [77] 0,fce 1 9 0 [32] 0,fce 1 10 0 [10] 0,fce 2 1 2 [] 0,fce 2 2 0 [110,98] 1,fce 2 3 0 [102] 0,fce 2 8 0 [10] 0,fce 2 9 0 [32] 0,fce 2 13 0 [32] 0,fce 3 1 4 [] 0,fce 3 2 0 [110,98] 2,fce 3 3 0 [98] 0,fce 4 1 5 [] 0,fce 4 2 1 [] 3,fce 4 4 7 [] 0,fce 4 8 0 [32] 0,fce 5 1 5 [] 0,fce 5 2 1 [] 2,fce 5 4 5 [] 0,fce 5 8 0 [32] 0,fce 6 1 5 [] 0,fce 6 2 2 [] 2,fce 6 4 19 [] 0,fce 6 8 0 [32] 0,fce 6 9 0 [32] 0,fce 6 10 0 [32] 0,fce 7 1 5 [] 0,fce 7 2 1 [] 6,fce 7 4 12 [] 3,fce 7 8 0 [32] 0,fce 8 1 5 [] 0,fce 8 2 2 [] 6,fce 8 4 10 [49] 0,fce 8 8 0 [32] 0,fce 9 1 5 [] 0,fce 9 2 3 [] 6,fce 9 4 20 [97] 0,fce 9 8 0 [32] 0,fce 9 9 0 [32] 0,fce 9 10 0 [32] 0,fce 9 11 0 [32] 0,fce 10 1 5 [] 0,fce 10 2 1 [] 9,fce 10 4 10 [50] 0,fce 10 8 0 [32] 0,fce 11 1 5 [] 0,fce 11 2 2 [] 9,fce 11 4 12 [] 9,fce 11 8 0 [32] 0],())
def fst4:tCommit.den:=(1048578,[],[],[102,105,114,115,116],[fce 1 1 1 [] 0,fce 1 2 1 [] 0,fce 1 3 0 [77] 0,fce 1 9 0 [32] 0,fce 1 10 0 [10] 0],())
def fst5:tCommit.den:=(1048585,[],[],[102,105,114,115,116],[fce 1 1 1 [] 0,fce 1 2 1 [] 0,fce 1 3 0 [77] 0,fce 1 9 0 [32] 0,fce 1 10 0 [10] 0,fce 2 1 2 [] 0,fce 2 2 0 [105,114] 1,fce 2 3 0 [102] 0,fce 2 8 0 [10] 0,fce 2 9 0 [32] 0,fce 2 13 0 [32] 0,fce 3 1 5 [] 0,fce 3 2 1 [] 2,fce 3 4 6 [] 0,fce 3 8 0 [32] 0,fce 4 1 5 [] 0,fce 4 2 2 [] 2,fce 4 4 11 [34,97,34] 0,fce 4 8 0 [32] 0,fce 5 1 2 [] 0,fce 5 2 0 [114,105] 1,fce 5 3 0 [103] 0,fce 5 8 0 [10] 0,fce 5 9 0 [32] 0,fce 5 13 0 [32] 0,fce 6 1 5 [] 0,fce 6 2 1 [] 5,fce 6 4 6 [] 0,fce 6 8 0 [32] 0,fce 7 1 5 [] 0,fce 7 2 2 [] 5,fce 7 4 22 [] 0,fce 7 8 0 [32] 0,fce 8 1 5 [] 0,fce 8 2 1 [] 7,fce 8 4 16 [] 2],())
def fst6:tCommit.den:=(1048602,[],[],[102,105,114,115,116],[fce 1 1 1 [] 0,fce 1 2 1 [] 0,fce 1 3 0 [77] 0,fce 1 9 0 [32] 0,fce 2 1 2 [] 0,fce 2 2 0 [105,114] 1,fce 2 3 0 [102] 0,fce 2 8 0 [32] 0,fce 2 9 0 [32] 0,fce 2 13 0 [32] 0,fce 3 1 4 [] 0,fce 3 2 0 [110,98] 2,fce 3 3 0 [120] 0,fce 4 1 5 [] 0,fce 4 2 1 [] 3,fce 4 4 5 [] 0,fce 4 8 0 [32] 0,fce 5 1 5 [] 0,fce 5 2 1 [] 2,fce 5 4 5 [] 0,fce 5 8 0 [32] 0,fce 6 1 5 [] 0,fce 6 2 2 [] 2,fce 6 4 21 [42] 0,fce 6 8 0 [32] 0,fce 7 1 5 [] 0,fce 7 2 1 [] 6,fce 7 4 16 [] 2,fce 7 8 0 [32] 0,fce 8 1 5 [] 0,fce 8 2 0 [110,98] 7,fce 8 4 17 [] 3,fce 9 1 5 [] 0,fce 9 2 1 [] 8,fce 9 4 12 [] 3,fce 10 1 5 [] 0,fce 10 2 2 [] 6,fce 10 4 10 [50] 0,fce 10 8 0 [32] 0,fce 11 1 2 [] 0,fce 11 2 0 [114,105] 1,fce 11 3 0 [103] 0,fce 11 8 0 [32] 0,fce 11 9 0 [32] 0,fce 11 13 0 [32] 0,fce 12 1 4 [] 0,fce 12 2 0 [105,114] 11,fce 12 3 0 [120] 0,fce 13 1 5 [] 0,fce 13 2 1 [] 12,fce 13 4 5 [] 0,fce 13 8 0 [32] 0,fce 14 1 4 [] 0,fce 14 2 0 [114,105] 11,fce 14 3 0 [121] 0,fce 14 8 0 [32] 0,fce 15 1 5 [] 0,fce 15 2 1 [] 14,fce 15 4 5 [] 0,fce 15 8 0 [32] 0,fce 16 1 5 [] 0,fce 16 2 1 [] 11,fce 16 4 7 [] 0,fce 16 8 0 [32] 0,fce 17 1 5 [] 0,fce 17 2 2 [] 11,fce 17 4 21 [60] 0,fce 17 8 0 [32] 0,fce 18 1 5 [] 0,fce 18 2 1 [] 17,fce 18 4 16 [] 2,fce 18 8 0 [32] 0,fce 19 1 5 [] 0,fce 19 2 0 [110,98] 18,fce 19 4 17 [] 3,fce 20 1 5 [] 0,fce 20 2 1 [] 19,fce 20 4 12 [] 12,fce 21 1 5 [] 0,fce 21 2 2 [] 17,fce 21 4 16 [] 2,fce 21 8 0 [32] 0,fce 22 1 5 [] 0,fce 22 2 0 [110,98] 21,fce 22 4 17 [] 3,fce 23 1 5 [] 0,fce 23 2 1 [] 22,fce 23 4 16 [] 2,fce 24 1 5 [] 0,fce 24 2 0 [110,98] 23,fce 24 4 17 [] 3,fce 25 1 5 [] 0,fce 25 2 1 [] 24,fce 25 4 12 [] 14],())
def fst7:tCommit.den:=(1048589,[],[],[102,105,114,115,116],[fce 1 1 1 [] 0,fce 1 2 1 [] 0,fce 1 3 0 [77] 0,fce 1 9 0 [32] 0,fce 1 10 0 [10] 0,fce 2 1 2 [] 0,fce 2 2 0 [110,98] 1,fce 2 3 0 [102] 0,fce 2 8 0 [10] 0,fce 2 9 0 [32] 0,fce 2 13 0 [32] 0,fce 3 1 4 [] 0,fce 3 2 0 [110,98] 2,fce 3 3 0 [120] 0,fce 4 1 5 [] 0,fce 4 2 1 [] 3,fce 4 4 5 [] 0,fce 4 8 0 [32] 0,fce 5 1 5 [] 0,fce 5 2 1 [] 2,fce 5 4 5 [] 0,fce 5 8 0 [32] 0,fce 6 1 5 [] 0,fce 6 2 2 [] 2,fce 6 4 16 [103] 0,fce 6 8 0 [32] 0,fce 7 1 5 [] 0,fce 7 2 0 [110,98] 6,fce 7 4 17 [] 0,fce 8 1 5 [] 0,fce 8 2 1 [] 7,fce 8 4 12 [] 3,fce 9 1 1 [] 0,fce 9 2 1 [] 0,fce 9 3 0 [78] 0,fce 9 9 0 [32] 0,fce 9 10 0 [10] 0,fce 10 1 2 [] 0,fce 10 2 0 [110,98] 9,fce 10 3 0 [102] 0,fce 10 8 0 [10] 0,fce 10 9 0 [32] 0,fce 10 13 0 [32] 0,fce 11 1 5 [] 0,fce 11 2 1 [] 10,fce 11 4 5 [] 0,fce 11 8 0 [32] 0,fce 12 1 5 [] 0,fce 12 2 2 [] 10,fce 12 4 15 [] 0,fce 12 8 0 [32] 0],())
def fstL:Int→tCommit.den
 |0=>fst0
 |1=>fst1
 |2=>fst2
 |3=>fst3
 |4=>fst4
 |5=>fst5
 |6=>fst6
 |_=>fst7
def firstF (x:Int):tCommit.den:=fstL ((mod2_ev x 8).getD 0)
section
def N2:Ent:=sp1 tInt (λ_=>true) λf=>.val tCommit (firstF f)
end
