/- The equations of the program's functions. -/
import Derived.Test.YtfgpipfjalmooaaGreatAbs1
import Derived.Test.YtfgpipfjalmooaaGreatChecked
set_option linter.all false
noncomputable section
namespace Go.Proofs.YtfgpipfjalmooaaGreat
namespace Abs
abbrev tInt:Ty :=.int .i64
abbrev aX:Ty:=.cons tInt (.cons tInt (.cons tInt (.cons tInt .unit)))
abbrev Lb':=List aX.den
abbrev ud:Ty:=(.cons tInt (.cons tInt .unit))
open Go Tryz
section
def kY:TabL:={
 ty:=[(3,tInt),(4,.bool),(5,(.int .u8)),(9,.str),(45,tInt),(288,aX)],
 cells:=[(3,1),(4,1),(5,1),(9,1),(45,1),(288,4)],
 offs:=[((288,0),0),((288,1),1),((288,2),2),((288,3),3)],
 one:=[],
 elem:=[] }
def cJ:TabOk prog kY.tab:=TabL.ok Φ
def follows:prog.follows .mixedOrders=true:=Φ
def fi0:FuncId→Option Fi:=λ_=>none
def acm:∀f x,fi0 f=some x→FiOk prog f x:=λ_ _ h=>by cases h
variable{f:FuncId}{fn:Func}{S:Par}{C:Type}
def evX {R:Type}(P:prog.funcs[f]? = some fn)(C:TabOk prog S.tab)(r:SpecsOk prog S.T){a:Ty}{tys:List Ty}{o:R→AV}{z:R}{g:a.den→Option R}(T:Nat→a.den→Option AV)(p:∀y,T FU y=Option.map o (g y))(J:wB fn=true:=by kernel_rfl)(l:∀j y,uv fi0 hs0 0 (ju fn S) tys j (Xh a y)=T j y:=by intro _ _;kernel_rfl):ar prog f (evE a o z g):=aiY follows acm kP P C r T p J l
def nwX (U:prog.funcs[f]? = some fn)(P:TabOk prog S.tab)(J:SpecsOk prog S.T){l a:Ty}{e:TypeId}{g:a.den→Option (List l.den)}(T:Nat→a.den→Option AV)(C:∀y,T FU y=Option.map (λr=>.val (.slice l) r) (g y))(R:wB fn=true:=by kernel_rfl)(p:∀j y,aaL fi0 hs0 0 (ju fn S) l e j (Xh a y)=T j y:=by intro _ _;kernel_rfl):UZ prog f (nwE l a e g):=aiL follows acm kP U P J T C R p
def rx (c:Bool)(t:Ty)(x y:t.den):cond c (some (AV.val t x)) (some (AV.val t y))=some (AV.val t (cond c x y)):=by cases c <;> rfl
def o8 (c:Int):Bool:=cond (c≥97) (decide (c≤122)) false
def G5:List (Nat×Ent):=[]
def aby:Par:=⟨kY.tab,az G5,λ_=>look [],λ_=>look []⟩
def abx:Code:=(f280.body).getD .skip
def P5:Fi:=⟨aby,9,[.tmp 2],abx⟩
def AK:KT:=bg kY.tab [.tmp 2] [.bool]
def yM (f:Nat)(c:Int):Option AV:=uv fi0 hs0 0 P5 [.bool] f [.val (.int .u8) c]
def TP (f:Nat)(c:Int):yM f c=cond (aS (decide (c≥97)) (decide (c≥97))&&true&&true) (cond (aS (decide (c≥97)) (decide (c≥97))&&true) (some (.val .bool (cond (c≥97) (decide (c≤122)) false))) none) none:=Φ
def Yy (f:Nat)(c:Int):yM f c=some (.val .bool (cond (c≥97) (decide (c≤122)) false)):=by simpa only[aF,cD,m?,b?,I',H_,s?,q?,o?,u?,Int.reduceLE,Int.reduceEq,Int.reduceLT,Q']using TP f c
def Yx:dI prog G5→FiOk prog 280 (P5):=λh=>⟨⟨f280,func280,rfl,Φ,Φ,Φ⟩,cJ,ag h⟩
def uT:Ent:=sp1 (.int .u8) (λ_=>true) λf=>.val .bool (o8 f)
def TQ (l:dI prog G5)(h:∀(f:Int),∃g,yM g f=some (.val .bool (o8 f))):ar prog 280 uT:=uh λf _=>(let ⟨_,j⟩:=h f;bF follows (λ_ _ h=>by cases h) kP (Yx l) (ds:=[⟨_,f⟩]) j)
def G4:ar prog 280 uT:=TQ trivial (λc=>⟨0,by rw[Yy];first|rfl|(simp only[rx];rfl)⟩)
def jA (c:Int):Bool:=cond (c≥65) (decide (c≤90)) false
def Fd:List (Nat×Ent):=[]
def Z6:Par:=⟨kY.tab,az Fd,λ_=>look [],λ_=>look []⟩
def Z5:Code:=(f281.body).getD .skip
def Od:Fi:=⟨Z6,9,[.tmp 2],Z5⟩
def yp (f:Nat)(c:Int):Option AV:=uv fi0 hs0 0 Od [.bool] f [.val (.int .u8) c]
def Sd (f:Nat)(c:Int):yp f c=cond (aS (decide (c≥65)) (decide (c≥65))&&true&&true) (cond (aS (decide (c≥65)) (decide (c≥65))&&true) (some (.val .bool (cond (c≥65) (decide (c≤90)) false))) none) none:=Φ
def Xj (f:Nat)(c:Int):yp f c=some (.val .bool (cond (c≥65) (decide (c≤90)) false)):=by simpa only[aF,cD,m?,b?,I',H_,s?,q?,o?,u?,Int.reduceLE,Int.reduceEq,Int.reduceLT,Q']using Sd f c
def Xi:dI prog Fd→FiOk prog 281 (Od):=λh=>⟨⟨f281,func281,rfl,Φ,Φ,Φ⟩,cJ,ag h⟩
def qe:Ent:=sp1 (.int .u8) (λ_=>true) λf=>.val .bool (jA f)
def Se (l:dI prog Fd)(h:∀(f:Int),∃g,yp g f=some (.val .bool (jA f))):ar prog 281 qe:=uh λf _=>(let ⟨_,j⟩:=h f;bF follows (λ_ _ h=>by cases h) kP (Xi l) (ds:=[⟨_,f⟩]) j)
def zu:ar prog 281 qe:=Se trivial (λc=>⟨0,by rw[Xj];first|rfl|(simp only[rx];rfl)⟩)
def xa (c:Int):Bool:=cond (c≥48) (decide (c≤57)) false
def HQ:List (Nat×Ent):=[]
def acE:Par:=⟨kY.tab,az HQ,λ_=>look [],λ_=>look []⟩
def acD:Code:=(f279.body).getD .skip
def Rf:Fi:=⟨acE,9,[.tmp 2],acD⟩
def yT (f:Nat)(c:Int):Option AV:=uv fi0 hs0 0 Rf [.bool] f [.val (.int .u8) c]
def UD (f:Nat)(c:Int):yT f c=cond (aS (decide (c≥48)) (decide (c≥48))&&true&&true) (cond (aS (decide (c≥48)) (decide (c≥48))&&true) (some (.val .bool (cond (c≥48) (decide (c≤57)) false))) none) none:=Φ
def Ze (f:Nat)(c:Int):yT f c=some (.val .bool (cond (c≥48) (decide (c≤57)) false)):=by simpa only[aF,cD,m?,b?,I',H_,s?,q?,o?,u?,Int.reduceLE,Int.reduceEq,Int.reduceLT,Q']using UD f c
def Zd:dI prog HQ→FiOk prog 279 (Rf):=λh=>⟨⟨f279,func279,rfl,Φ,Φ,Φ⟩,cJ,ag h⟩
def BA:Ent:=sp1 (.int .u8) (λ_=>true) λf=>.val .bool (xa f)
def UE (l:dI prog HQ)(h:∀(f:Int),∃g,yT g f=some (.val .bool (xa f))):ar prog 279 BA:=uh λf _=>(let ⟨_,j⟩:=h f;bF follows (λ_ _ h=>by cases h) kP (Zd l) (ds:=[⟨_,f⟩]) j)
def Re:ar prog 279 BA:=UE trivial (λc=>⟨0,by rw[Ze];first|rfl|(simp only[rx];rfl)⟩)
def wU (m:Bool)(K:Bool→Option C)(c:Int):Option C:=ce m .bool true (o8 c) λr1=>let a:=cond r1 true (jA c);nq m [2,0] (!r1) (nq m [2,0] (!cond r1 true (jA c)) (nq m [2,0] (!cond a true (xa c)) (K (cond (cond a true (xa c)) true (decide (c=95))))))
def jn (c:Int):Option Bool:=wU false some c
def ac (r:Bool):AV :=.val .bool r
def Ks:Ent:=evE (.cons (.int .u8) .unit) ac (zero .bool) λx=>jn x.1
def YU:Par:=⟨kY.tab,az [(280,uT),(281,qe),(279,BA)],λ_=>look [],λ_=>look []⟩
def YS:ar prog 367 (Ks):=evX func367 (S:=YU) cJ (ag ⟨G4,zu,Re,aoG⟩) (tys:=[.bool]) (λf x=>wU true (sm ac) x.1) (λx=>by show _=Option.map ac _;simp only[wU,jn,ss])
def rL (c:Int):Bool:=cond (cond (cond (c=9) true (c=10)) true (c=13)) true (decide (c=32))
def Fa:List (Nat×Ent):=[]
def ZV:Par:=⟨kY.tab,az Fa,λ_=>look [],λ_=>look []⟩
def ZU:Code:=(f276.body).getD .skip
def N0:Fi:=⟨ZV,17,[.tmp 2],ZU⟩
def yo (f:Nat)(c:Int):Option AV:=uv fi0 hs0 0 N0 [.bool] f [.val (.int .u8) c]
def R4 (f:Nat)(c:Int):yo f c=cond (aS (!c=9) (!c=9)&&true&&true) (cond (aS (!c=9) (!c=9)) (cond (aS (!cond (c=9) true (c=10)) (!cond (c=9) true (c=10))&&true&&true) (cond (aS (!cond (c=9) true (c=10)) (!cond (c=9) true (c=10))) (cond (aS (!cond (cond (c=9) true (c=10)) true (c=13)) (!cond (cond (c=9) true (c=10)) true (c=13))&&true&&true) (cond (aS (!cond (cond (c=9) true (c=10)) true (c=13)) (!cond (cond (c=9) true (c=10)) true (c=13))) (some (.val .bool (cond (cond (cond (c=9) true (c=10)) true (c=13)) true (decide (c=32))))) none) none) none) none) none) none:=Φ
def Xe (f:Nat)(c:Int):yo f c=some (.val .bool (cond (cond (cond (c=9) true (c=10)) true (c=13)) true (decide (c=32)))):=by simpa only[aF,cD,m?,b?,I',H_,s?,q?,o?,u?,Int.reduceLE,Int.reduceEq,Int.reduceLT,Q']using R4 f c
def Xd:dI prog Fa→FiOk prog 276 (N0):=λh=>⟨⟨f276,func276,rfl,Φ,Φ,Φ⟩,cJ,ag h⟩
def tU:Ent:=sp1 (.int .u8) (λ_=>true) λf=>.val .bool (rL f)
def R5 (l:dI prog Fa)(h:∀(f:Int),∃g,yo g f=some (.val .bool (rL f))):ar prog 276 tU:=uh λf _=>(let ⟨_,j⟩:=h f;bF follows (λ_ _ h=>by cases h) kP (Xd l) (ds:=[⟨_,f⟩]) j)
def E9:ar prog 276 tU:=R5 trivial (λc=>⟨0,by rw[Xe];first|rfl|(simp only[rx];rfl)⟩)
def wz (c:Int):Bool:=cond (c≥32) (decide (c≤126)) false
def yD:List (Nat×Ent):=[]
def Te:Par:=⟨kY.tab,az yD,λ_=>look [],λ_=>look []⟩
def Td:Code:=(f278.body).getD .skip
def Gj:Fi:=⟨Te,9,[.tmp 2],Td⟩
def su (f:Nat)(c:Int):Option AV:=uv fi0 hs0 0 Gj [.bool] f [.val (.int .u8) c]
def Me (f:Nat)(c:Int):su f c=cond (aS (decide (c≥32)) (decide (c≥32))&&true&&true) (cond (aS (decide (c≥32)) (decide (c≥32))&&true) (some (.val .bool (cond (c≥32) (decide (c≤126)) false))) none) none:=Φ
def Pl (f:Nat)(c:Int):su f c=some (.val .bool (cond (c≥32) (decide (c≤126)) false)):=by simpa only[aF,cD,m?,b?,I',H_,s?,q?,o?,u?,Int.reduceLE,Int.reduceEq,Int.reduceLT,Q']using Me f c
def Pk:dI prog yD→FiOk prog 278 (Gj):=λh=>⟨⟨f278,func278,rfl,Φ,Φ,Φ⟩,cJ,ag h⟩
def sw:Ent:=sp1 (.int .u8) (λ_=>true) λf=>.val .bool (wz f)
def Mf (l:dI prog yD)(h:∀(f:Int),∃g,su g f=some (.val .bool (wz f))):ar prog 278 sw:=uh λf _=>(let ⟨_,j⟩:=h f;bF follows (λ_ _ h=>by cases h) kP (Pk l) (ds:=[⟨_,f⟩]) j)
def Gi:ar prog 278 sw:=Mf trivial (λc=>⟨0,by rw[Pl];first|rfl|(simp only[rx];rfl)⟩)
def tC (m:Bool)(K:Bool→Option C)(c:Int):Option C:=ce m .bool true (rL c) λr1=>nq m [2,0] (!r1) (K (cond r1 true (wz c)))
def fh (c:Int):Option Bool:=tC false some c
def zb:Ent:=evE (.cons (.int .u8) .unit) ac (zero .bool) λx=>fh x.1
def UU:Par:=⟨kY.tab,az [(276,tU),(278,sw)],λ_=>look [],λ_=>look []⟩
def Ii:ar prog 277 (zb):=evX func277 (S:=UU) cJ (ag ⟨E9,Gi,aoG⟩) (tys:=[.bool]) (λf x=>tC true (sm ac) x.1) (λx=>by show _=Option.map ac _;simp only[tC,fh,ss])
abbrev be (C:Type):=Bool→Option C
abbrev aG (C:Type):=Option C
def jD (m:Bool)(K:Bool→Option C)(f:aG C):be C:=λg=>cond g (K true) f
def jC (m:Bool)(K:Bool→Option C):aG C:=(K false)
def oR (m:Bool)(K:Bool→Option C)(f:be C)(s:Str):Option C:=cond (s=[109,111,100,117,108,101]) (fz m .bool (decide (s=[109,111,100,117,108,101])) (λg=>f g)) (cond (s=[100,101,102]) (fz m .bool (decide (s=[100,101,102])) (λg=>f g)) (cond (s=[116,121,112,101]) (fz m .bool (decide (s=[116,121,112,101])) (λg=>f g)) (cond (s=[108,101,116]) (fz m .bool (decide (s=[108,101,116])) (λg=>f g)) (cond (s=[105,110]) (fz m .bool (decide (s=[105,110])) (λg=>f g)) (cond (s=[105,102]) (fz m .bool (decide (s=[105,102])) (λg=>f g)) (cond (s=[116,104,101,110]) (fz m .bool (decide (s=[116,104,101,110])) (λg=>f g)) (cond (s=[101,108,115,101]) (fz m .bool (decide (s=[101,108,115,101])) (λg=>f g)) (cond (s=[116,114,117,101]) (fz m .bool (decide (s=[116,114,117,101])) (λg=>f g)) (cond (s=[102,97,108,115,101]) (fz m .bool (decide (s=[102,97,108,115,101])) (λg=>f g)) (cond (s=[73,110,116]) (fz m .bool (decide (s=[73,110,116])) (λg=>f g)) (cond (s=[84,101,120,116]) (fz m .bool (decide (s=[84,101,120,116])) (λg=>f g)) (fz m .bool (decide (s=[66,111,111,108])) (λg=>f g)))))))))))))
def iC:aG Bool:=jC false some
def iD:be Bool:=jD false some iC
def cT (s:Str):Option Bool:=oR false some iD s
def Dz:Ent:=evE (.cons .str .unit) ac (zero .bool) λx=>cT x.1
def uy:MS:=⟨0,[],[(4,.dat .bool)]⟩
def bY:MS:=⟨0,[],[]⟩
def DA:Par:=⟨kY.tab,az [],λ_=>look [(15,uy),(16,bY)],λ_=>look []⟩
def uz (f g:Nat)(p:List Nat):Sg→KT→Option AV:=xc (bn fi0 hs0 f 0) DA g f (sub (f320.body.getD .skip) p)
def mJ (f:Nat):be AV:=λg=>uz f 0 [1,0,1,0,1] ⟨mkE 18 [(4,.val .bool g)],mkH 0 []⟩ (aj 0 (aL 0 (some bY) (uz f 0 [1,1]) AK))
def mI (f:Nat):aG AV:=uz f 0 [1,1] ⟨mkE 18 [],mkH 0 []⟩ AK
def F2 (f:Nat):mJ f=jD true (sm ac) (mI f):=Φ
def F0 (f:Nat):mI f=jC true (sm ac):=Φ
def F1:mI FU=mp0 ac (iC):=(F0 FU).trans (by simp only[jC,iC,ss])
def F3:mJ FU=mp1 ac (iD):=(F2 FU).trans (by rw[F1];funext _;simp only[jD,iD,ss])
def O0:ar prog 320 (Dz):=evX func320 (S:=DA) cJ (ag trivial) (tys:=[.bool]) (λf x=>oR true (sm ac) (mJ f) x.1) (λx=>by show _=Option.map ac _;rw[F3];simp only[oR,cT,ss])
abbrev aH (C:Type):=Str→Int→Int→Option C
def abP (f:Int):Bool:=(jn f).isSome
def abQ (f:Int):Bool:=(jn f).getD (zero .bool)
def tT (m:Bool)(K:Int→Option C)(g:aH C):aH C:=λs l f=>nm m 2 (f<il s) (bd f s.length) (nm m 1 (f<il s) (abP (ixs s f)) (nq m [1] (f<il s) (cond (cond (f<il s) (abQ (ixs s f)) false) (fz m tInt (w64 (f+1)) (λj=>g s l j)) (K (w64 (f-l))))))
def Eg (m:Bool)(K:Int→Option C)(g:aH C)(s:Str)(f:Int):Option C:=let d:=bd f s.length;let c:=ixs s f;let b:Bool:=!f≥il s;let a:Bool:=!f≥il s&&!o8 c;nm m 2 b d (nq m [2,2,2] b (nm m 2 a d (nq m [2,2] a (nm m 0 b (ii a&&true) (nq m [0] b (cond (cond (f≥il s) true (cond (!o8 c) (!jA c) false)) (K 0) (g s f f)))))))
def vO:Nat→aH Int:=lp (λ_ _ _=>none) λf=>tT false some f
def jN (s:Str)(f:Int):Option Int:=Eg false some (vO FU) s f
def ax (r:Int):AV :=.val tInt r
def U1:Ent:=evE (.cons .str (.cons tInt .unit)) ax (zero tInt) λx=>jN x.1 x.2.1
def Je:MS:=⟨0,[],[(0,.dat .str),(1,.dat tInt),(5,.dat tInt)]⟩
def U2:Par:=⟨kY.tab,az [(280,uT),(281,qe),(367,Ks)],λ_=>look [],λ_=>look [(4,Je)]⟩
def Lv:KT:=bg kY.tab [.tmp 4] [tInt]
def U3 (f g:Nat)(p:List Nat):Sg→KT→Option AV:=xc (bn fi0 hs0 f 0) U2 g f (sub (f319.body.getD .skip) p)
def vN (f n:Nat):aH AV:=λs j g=>aE 0 Je (U3 f 0 [1,1,1,0,0,0]) (aj 0 (aL 0 none (U3 f 0 [1,1,1,1]) Lv)) n ⟨mkE 40 [(0,.val .str s),(1,.val tInt j),(5,.val tInt g)],mkH 0 []⟩
def Xa (f g:Nat):vN f (g+1)=tT true (sm ax) (vN f g):=Φ
def Xb:∀n,vN FU n=mp3 ax (vO n):=bo Φ λf _ h=>(Xa FU f).trans (by rw[h];funext _ _ _;simp only[tT,ss])
def adY:ar prog 319 (U1):=evX func319 (S:=U2) cJ (ag ⟨G4,zu,YS,aoG⟩) (tys:=[tInt]) (λf x=>Eg true (sm ax) (vN f f) x.1 x.2.1) (λx=>by show _=Option.map ax _;rw[Xb FU];simp only[Eg,jN,ss])
def wh (m:Bool)(K:Int→Option C)(f:aG C):be C:=λg=>cond g (K 1) f
def wg (m:Bool)(K:Int→Option C):aG C:=(K 0)
def En (m:Bool)(K:Int→Option C)(p:be C)(s:Str)(J:Int):Option C:=let l:=w64 (J+1);let k:Bool:=ixs s J=60;let j:Bool:=ixs s J=42;let i:Bool:=ixs s J=45;let h:Bool:=ixs s J=43;let g:Bool:=ixs s J=44;let f:Bool:=ixs s J=58;let e:Bool:=ixs s J=93;let d:Bool:=ixs s J=91;let c:Bool:=ixs s J=41;let b:Bool:=ixs s J=40;let a:Bool:=w64 (J+1)<il s;ck (bd J s.length) (cond (ixs s J=61) (nq m [2] a (nm m 2 a (bd l s.length) (nq m [2,1] a (cond (cond a (ixs s l=61) false) (K 2) (K 1))))) (cond b (fz m .bool b (λr=>p r)) (cond c (fz m .bool c (λr=>p r)) (cond d (fz m .bool d (λr=>p r)) (cond e (fz m .bool e (λr=>p r)) (cond f (fz m .bool f (λr=>p r)) (cond g (fz m .bool g (λr=>p r)) (cond h (fz m .bool h (λr=>p r)) (cond i (fz m .bool i (λr=>p r)) (cond j (fz m .bool j (λr=>p r)) (cond k (fz m .bool k (λr=>p r)) (fz m .bool (decide (ixs s J=63)) (λr=>p r)))))))))))))
def rX:aG Int:=wg false some
def rY:be Int:=wh false some rX
def uk (s:Str)(f:Int):Option Int:=En false some rY s f
def Vh:Ent:=evE (.cons .str (.cons tInt .unit)) ax (zero tInt) λx=>uk x.1 x.2.1
def Sr:MS:=⟨0,[],[(22,.dat .bool)]⟩
def Vi:Par:=⟨kY.tab,az [],λ_=>look [(17,Sr),(18,bY)],λ_=>look []⟩
def LI (f g:Nat)(p:List Nat):Sg→KT→Option AV:=xc (bn fi0 hs0 f 0) Vi g f (sub (f283.body.getD .skip) p)
def yt (f:Nat):be AV:=λg=>LI f 0 [1,0,1,0,1,1,1] ⟨mkE 34 [(22,.val .bool g)],mkH 0 []⟩ (aj 0 (aL 0 (some bY) (LI f 0 [1,1]) Lv))
def yq (f:Nat):aG AV:=LI f 0 [1,1] ⟨mkE 34 [],mkH 0 []⟩ Lv
def Sv (f:Nat):yt f=wh true (sm ax) (yq f):=Φ
def Ss (f:Nat):yq f=wg true (sm ax):=Φ
def Su:yq FU=mp0 ax (rX):=(Ss FU).trans (by simp only[wg,rX,ss])
def Sw:yt FU=mp1 ax (rY):=(Sv FU).trans (by rw[Su];funext _;simp only[wh,rY,ss])
def ad9:ar prog 283 (Vh):=evX func283 (S:=Vi) cJ (ag trivial) (tys:=[tInt]) (λf x=>En true (sm ax) (yt f) x.1 x.2.1) (λx=>by show _=Option.map ax _;rw[Sw];simp only[En,uk,ss])
abbrev NR (C:Type):=Int→Int→Int→Str→Int→Option C
def rH (m:Bool)(K:aX.den→Option C):NR C:=λg r1 j s f=>let a:=w64 (g+r1)+1;nq m [2,0] (!r1>24) (cond (cond (r1>24) true (j>24)) (K (0,0,3,g,())) (cl m .bool (cT ((List.take (Int.toNat (w64 (w64 a+j))) s).drop (Int.toNat (w64 a)))) (λl=>cond l (K (0,0,2,g,())) (K (w64 (w64 (r1+1)+j),f,0,0,())))))
def SS (f:Str):Bool:=(cT f).isSome
def gH (f:Str):Bool:=(cT f).getD (zero .bool)
def ZS (g:Str)(f:Int):Bool:=(jN g f).isSome
def Lw (g:Str)(f:Int):Int:=(jN g f).getD (zero tInt)
def zj (m:Bool)(K:aX.den→Option C)(s:Str)(p:Int):Option C:=let l:=jA (ixs s p);let k:=bd p s.length;let g:=Int.toNat p;cl m tInt (jN s p) λr1=>let h:=w64 (p+r1);let c:=List.take (Int.toNat h) s;let b:=w64 (p+r1)+1;let i:=w64 b;let n:=Int.toNat i;ck (0≤p&&p≤w64 (p+r1)&&w64 (p+r1)≤(s.length:Int)) (ck k (ce m .bool true l (λJ=>let e:Bool:=cond J (!gH (c.drop g)) false;let a:Bool:=cond e (w64 b<il s) false;let d:Bool:=cond a (ixs s h=46) false;nm m 1 J (SS (c.drop g)) (nq m [2,1] J (nq m [2,2,3,1] e (nm m 2 a (bd h s.length) (nq m [2,1] a (nq m [2] d (nm m 2 d (ZS s i) (nq m [2,1] d (cond (cond d (Lw s i>0) false) (cl m tInt (jN s i) (λr=>let j:=w64 b+r;let f:=List.take (Int.toNat (w64 j)) s;ck (0≤w64 b&&w64 b≤w64 j&&w64 j≤(s.length:Int)) (ck (bd 0 (f.drop n).length) (ce m .bool true (jA (ixs (f.drop n) 0)) (λT=>cond T (rH m K p r1 r s 4) (rH m K p r1 r s 3)))))) (cond (r1>24) (K (0,0,3,p,())) (cl m .bool (cT (c.drop g)) (λR=>cond R (K (r1,7,0,0,())) (ck k (ce m .bool true l (λP=>cond P (K (r1,2,0,0,())) (K (r1,1,0,0,())))))))))))))))))))
def pZ (s:Str)(f:Int):Option aX.den:=zj false some s f
def fR (r:aX.den):AV :=.val aX r
def NT:Ent:=evE (.cons .str (.cons tInt .unit)) fR (zero aX) λx=>pZ x.1 x.2.1
def NS:MS:=⟨1,[(0,[.dat tInt,.dat tInt,.dat tInt,.dat tInt])],[(1,.dat tInt),(4,.keep),(5,.dat tInt),(8,.dat tInt),(9,.dat .str),(10,.dat tInt)]⟩
def ZQ:Par:=⟨kY.tab,az [(319,U1),(281,qe),(320,Dz)],λ_=>look [(10,NS)],λ_=>look []⟩
def ZP:ar prog 282 (NT):=evX func282 (S:=ZQ) cJ (ag ⟨adY,zu,O0,aoG⟩) (tys:=[aX]) (λf x=>zj true (sm fR) x.1 x.2.1) (λx=>by show _=Option.map fR _;simp only[zj,pZ,rH,ss])
def uJ (m:Bool)(K:aX.den→Option C)(g:aH C):aH C:=λs l f=>let b:=K (0,0,2,l,());let a:=bd f s.length;cond (f<il s) (ck a (cond (ixs s f=34) (K (w64 (w64 (f+1)-l),6,0,0,())) (ck a (cl m .bool (fh (ixs s f)) (λr=>cond (!r) (K (0,0,1,f,())) (ck a (ce m .bool true (wz (ixs s f)) (λp=>nm m 2 (!!p) a (nq m [2,0] (!!p) (cond (cond (!p) true (ixs s f=92)) b (fz m tInt (w64 (f+1)) (λj=>g s l j)))))))))))) b
def qM (m:Bool)(K:aX.den→Option C)(j:aH C):aH C:=λs g f=>let a:Bool:=w64 (f-g)>1;nm m 2 (f<il s) (bd f s.length) (nq m [2,1] (f<il s) (cond (cond (f<il s) (xa (ixs s f)) false) (fz m tInt (w64 (f+1)) (λl=>j s g l)) (nq m [2,1] a (cond (cond a (ixs s g=48) false) (K (0,0,2,g,())) (cond (w64 (f-g)>15) (K (0,0,3,g,())) (K (w64 (f-g),5,0,0,())))))))
def EB (m:Bool)(K:aX.den→Option C)(j:aH C)(g:aH C)(s:Str)(f:Int):Option C:=let a:=ixs s f;ck (bd f s.length) (cl m .bool (fh a) (λr1=>cond (!r1) (K (0,0,1,f,())) (cond (ixs s f=34) (fz m tInt (w64 (f+1)) (λl=>j s f l)) (ce m .bool true (xa a) (λP=>cond P (g s f f) (ce m .bool true (o8 a) (λr=>nq m [2,0] (!r) (cond (cond r true (jA a)) (cl m aX (pZ s f) (λJ=>K J)) (cl m tInt (uk s f) (λp=>cond (p=0) (K (0,0,2,f,())) (K (p,8,0,0,()))))))))))))
def wF:Nat→aH aX.den:=lp (λ_ _ _=>none) λf=>uJ false some f
def sD:Nat→aH aX.den:=lp (λ_ _ _=>none) λf=>qM false some f
def uK (s:Str)(f:Int):Option aX.den:=EB false some (wF FU) (sD FU) s f
def VL:Ent:=evE (.cons .str (.cons tInt .unit)) fR (zero aX) λx=>uK x.1 x.2.1
def J7:MS:=⟨1,[(0,[.dat tInt,.dat tInt,.dat tInt,.dat tInt])],[(0,.dat .str),(1,.dat tInt),(4,.keep),(6,.dat tInt)]⟩
def GP:MS:=⟨1,[(0,[.dat tInt,.dat tInt,.dat tInt,.dat tInt])],[(0,.dat .str),(1,.dat tInt),(4,.keep),(5,.dat (.int .u8)),(7,.dat tInt)]⟩
def VM:Par:=⟨kY.tab,az [(277,zb),(279,BA),(280,uT),(281,qe),(282,NT),(283,Vh),(278,sw)],λ_=>look [],λ_=>look [(6,J7),(17,GP)]⟩
def VN:KT:=bg kY.tab [.cell 4 288] [aX]
def wG (f g:Nat)(p:List Nat):Sg→KT→Option AV:=xc (bn fi0 hs0 f 0) VM g f (sub (f227.body.getD .skip) p)
def wE (f n:Nat):aH AV:=λs j g=>aE 0 J7 (wG f 0 [1,1,0,0,1,1,1,0,0,1,0,0]) (aj 1 (aL 0 none (wG f 0 [1,1,0,0,1,1,1,0,1]) (aj 0 (aL 0 none (wG f 0 [1,1,1]) VN)))) n ⟨mkE 120 [(0,.val .str s),(1,.val tInt j),(4,.box 0 0),(6,.val tInt g)],mkH 1 [(0,.box [.val tInt (0:Int),.val tInt (0:Int),.val tInt (0:Int),.val tInt (0:Int)])]⟩
def sC (f n:Nat):aH AV:=λs g j=>aE 0 GP (wG f 0 [1,1,0,0,1,1,1,1,1,0,1,0,0,0]) (aj 4 (aL 0 none (wG f 0 [1,1,0,0,1,1,1,1,1,0,1,1]) (aj 0 (aL 0 none (wG f 0 [1,1,1]) VN)))) n ⟨mkE 120 [(0,.val .str s),(1,.val tInt g),(4,.box 0 0),(5,.val (.int .u8) (ixs s g)),(7,.val tInt j)],mkH 1 [(0,.box [.val tInt (0:Int),.val tInt (0:Int),.val tInt (0:Int),.val tInt (0:Int)])]⟩
def Yj (f g:Nat):wE f (g+1)=uJ true (sm fR) (wE f g):=Φ
def Tz (f g:Nat):sC f (g+1)=qM true (sm fR) (sC f g):=Φ
def Yl:∀n,wE FU n=mp3 fR (wF n):=bo Φ λf _ h=>(Yj FU f).trans (by rw[h];funext _ _ _;simp only[uJ,ss])
def TA:∀n,sC FU n=mp3 fR (sD n):=bo Φ λf _ h=>(Tz FU f).trans (by rw[h];funext _ _ _;simp only[qM,ss])
def aeY:ar prog 227 (VL):=evX func227 (S:=VM) cJ (ag ⟨Ii,Re,G4,zu,ZP,ad9,Gi,aoG⟩) (tys:=[aX]) (λf x=>EB true (sm fR) (wE f f) (sC f f) x.1 x.2.1) (λx=>by show _=Option.map fR _;rw[Yl FU,TA FU];simp only[EB,uK,ss])
def uX (m:Bool)(K:ud.den→Option C)(j:aH C)(g:aH C):aH C:=λs l f=>let a:=bd f s.length;cond (f<il s) (ck a (ce m .bool true (rL (ixs s f)) (λr1=>cond r1 (fz m tInt (w64 (f+1)) (λp=>j s l p)) (ck a (cond (ixs s f=35) (g s l f) (K (w64 (f-l),(-1:Int),()))))))) (K (w64 (f-l),(-1:Int),()))
def uW (m:Bool)(K:ud.den→Option C)(g:aH C)(j:aH C):aH C:=λs p f=>let a:=bd f s.length;nm m 2 (f<il s) a (nq m [2,1] (f<il s) (cond (cond (f<il s) (!ixs s f=10) false) (ck a (cl m .bool (fh (ixs s f)) (λr=>cond (!r) (K (w64 (f-p),f,())) (fz m tInt (w64 (f+1)) (λl=>g s p l))))) (j s p f)))
def ED (m:Bool)(K:ud.den→Option C)(f:aH C)(s:Str)(g:Int):Option C:=f s g g
def qY (g:aH ud.den):Nat→aH ud.den:=lp (λ_ _ _=>none) λf=>uW false some f g
def qZ:Nat→aH ud.den:=lp (λ_ _ _=>none) λf=>uX false some f (qY f FU)
def uY (s:Str)(f:Int):Option ud.den:=ED false some (qZ FU) s f
def o9 (r:ud.den):AV :=.tup (cm [.val tInt r.1,.val tInt r.2.1])
def VU:Ent:=evE (.cons .str (.cons tInt .unit)) o9 (zero ud) λx=>uY x.1 x.2.1
def qX:MS:=⟨0,[],[(0,.dat .str),(1,.dat tInt),(6,.dat tInt)]⟩
def VV:Par:=⟨kY.tab,az [(276,tU),(277,zb)],λ_=>look [],λ_=>look [(2,qX),(7,qX)]⟩
def VW:KT:=bg kY.tab [.tmp 4,.tmp 5] [tInt,tInt]
def AL (f g:Nat)(p:List Nat):Sg→KT→Option AV:=xc (bn fi0 hs0 f 0) VV g f (sub (f226.body.getD .skip) p)
def lS (f n:Nat):aH AV:=λs j g=>aE 0 qX (AL f 0 [1,1,0,0,0]) (aj 0 (aL 0 none (AL f 0 [1,1,1]) VW)) n ⟨mkE 51 [(0,.val .str s),(1,.val tInt j),(6,.val tInt g)],mkH 0 []⟩
def wM (f l n:Nat):aH AV:=λs j g=>aE 0 qX (AL f 0 [1,1,0,0,0,1,0,0,1,1,1,0,0,0]) (aj 3 (aj 2 (aj 1 (kLp 0 qX (AL f 0 [1,1,0,0,0]) (aj 0 (aL 0 none (AL f 0 [1,1,1]) VW)) l)))) n ⟨mkE 51 [(0,.val .str s),(1,.val tInt j),(6,.val tInt g)],mkH 0 []⟩
def YD (f g:Nat):lS f (g+1)=uX true (sm o9) (lS f g) (wM f g f):=Φ
def YB (f g j:Nat):wM f g (j+1)=uW true (sm o9) (wM f g j) (lS f g):=Φ
def YC (j:Nat){f:aH ud.den}(g:lS FU j=mp3 o9 f):∀n,wM FU j n=mp3 o9 (qY f n):=bo Φ λl _ h=>(YB FU j l).trans (by rw[h,g];funext _ _ _;simp only[uW,ss])
def YE:∀n,lS FU n=mp3 o9 (qZ n):=bo Φ λf _ h=>(YD FU f).trans (by rw[h,YC f h FU];funext _ _ _;simp only[uX,ss])
def ae4:ar prog 226 (VU):=evX func226 (S:=VV) cJ (ag ⟨E9,Ii,aoG⟩) (tys:=[tInt,tInt]) (λf x=>ED true (sm o9) (lS f f) x.1 x.2.1) (λx=>by show _=Option.map o9 _;rw[YE FU];simp only[ED,uY,ss])
def AU (m:Bool)(K:Bool→Option C)(f:aG C):be C:=λg=>cond g (K true) f
def AT (m:Bool)(K:Bool→Option C):aG C:=(K false)
def EG (m:Bool)(K:Bool→Option C)(g:be C)(s:Str):Option C:=cond (s=[43]) (fz m .bool (decide (s=[43])) (λf=>g f)) (cond (s=[45]) (fz m .bool (decide (s=[45])) (λf=>g f)) (cond (s=[42]) (fz m .bool (decide (s=[42])) (λf=>g f)) (cond (s=[60]) (fz m .bool (decide (s=[60])) (λf=>g f)) (fz m .bool (decide (s=[61,61])) (λf=>g f)))))
def wQ:aG Bool:=AT false some
def wR:be Bool:=AU false some wQ
def u4 (s:Str):Option Bool:=EG false some wR s
def V8:Ent:=evE (.cons .str .unit) ac (zero .bool) λx=>u4 x.1
def V9:Par:=⟨kY.tab,az [],λ_=>look [(7,uy),(8,bY)],λ_=>look []⟩
def MO (f g:Nat)(p:List Nat):Sg→KT→Option AV:=xc (bn fi0 hs0 f 0) V9 g f (sub (f286.body.getD .skip) p)
def CE (f:Nat):be AV:=λg=>MO f 0 [1,0,1,0,1] ⟨mkE 10 [(4,.val .bool g)],mkH 0 []⟩ (aj 0 (aL 0 (some bY) (MO f 0 [1,1]) AK))
def CD (f:Nat):aG AV:=MO f 0 [1,1] ⟨mkE 10 [],mkH 0 []⟩ AK
def YN (f:Nat):CE f=AU true (sm ac) (CD f):=Φ
def YL (f:Nat):CD f=AT true (sm ac):=Φ
def YM:CD FU=mp0 ac (wQ):=(YL FU).trans (by simp only[AT,wQ,ss])
def YO:CE FU=mp1 ac (wR):=(YN FU).trans (by rw[YM];funext _;simp only[AU,wR,ss])
def afc:ar prog 286 (V8):=evX func286 (S:=V9) cJ (ag trivial) (tys:=[.bool]) (λf x=>EG true (sm ac) (CE f) x.1) (λx=>by show _=Option.map ac _;rw[YO];simp only[EG,u4,ss])
def MB (m:Bool)(K:Int→Option C)(x:Int)(f:Int):Option C:=cond (f<1) (K 0) (ck (!f=0) (ck (!f=0) (K (Int.tmod (w64 (Int.tmod x f+f)) f))))
def mod2_ev (x:Int)(f:Int):Option Int:=MB false some x f
def sE:Ent:=evE (.cons tInt (.cons tInt .unit)) ax (zero tInt) λx=>mod2_ev x.1 x.2.1
def ahA:Par:=⟨kY.tab,az [],λ_=>look [],λ_=>look []⟩
def mod2_x:ar prog 18 (sE):=evX func18 (S:=ahA) cJ (ag trivial) (tys:=[tInt]) (λf x=>MB true (sm ax) x.1 x.2.1) (λx=>by show _=Option.map ax _;simp only[MB,mod2_ev,ss])
def BP (m:Bool)(K:Int→Option C)(text:Str):Option C:=let c:=rL (ixs text 0);let b:=bd 0 text.length;let a:Bool:=!cond (text=[]) true c;nm m 1 (!text=[]) b (nq m [2,0] (!text=[]) (nm m 1 a b (nq m [2,0] a (cond (cond (cond (text=[]) true c) true (ixs text 0=35)) (K 0) (cl m aX (uK text 0) (λr1=>nq m [2,2,3,0] (!!r1.2.2.1=0) (cond (cond (!r1.2.2.1=0) true (!r1.1=il text)) (K 0) (K r1.2.1))))))))
def lY (text:Str):Option Int:=BP false some text
def H9:Ent:=evE (.cons .str .unit) ax (zero tInt) λx=>lY x.1
def acZ:Par:=⟨kY.tab,az [(276,tU),(227,VL)],λ_=>look [],λ_=>look []⟩
def Rw:ar prog 235 (H9):=evX func235 (S:=acZ) cJ (ag ⟨E9,aeY,aoG⟩) (tys:=[tInt]) (λf x=>BP true (sm ax) x.1) (λx=>by show _=Option.map ax _;simp only[BP,lY,ss])
abbrev eM (C:Type):=Str→Bool→Int→Option C
abbrev zw (C:Type):=Str→Int→Bool→Option C
def mt (m:Bool)(K:Bool→Option C)(g:eM C):zw C:=λs i f=>fz m tInt (w64 (i+1)) λj=>g s f j
def jQ (m:Bool)(K:Bool→Option C)(g:eM C):zw C:=λs i f=>ck (bd i s.length) (cond (ixs s i=10) (mt m K g s i false) (mt m K g s i f))
def mq (m:Bool)(K:Bool→Option C)(g:eM C):eM C:=λs f i=>cond (i<il s) (ck (bd i s.length) (cond (ixs s i=35) (jQ m K g s i true) (jQ m K g s i f))) (K (!f))
def vW (m:Bool)(K:Bool→Option C)(f:eM C)(s:Str)(g:Bool):Option C:=cl m ud (uY s 0) λr1=>nq m [2,3,0] (!r1.2.1≥0) (cond (cond (r1.2.1≥0) true (r1.1<il s)) (K false) (cond g (K true) (f s false 0)))
def oL:Nat→eM Bool:=lp (λ_ _ _=>none) λf=>mq false some f
def ja (s:Str)(f:Bool):Option Bool:=vW false some (oL FU) s f
def Jr:Ent:=evE (.cons .str (.cons .bool .unit)) ac (zero .bool) λx=>ja x.1 x.2.1
def oJ:MS:=⟨0,[],[(0,.dat .str),(7,.dat .bool),(8,.dat tInt)]⟩
def Js:Par:=⟨kY.tab,az [(226,VU)],λ_=>look [(12,oJ),(9,oJ)],λ_=>look [(8,oJ)]⟩
def Xm:KT:=bg kY.tab [.tmp 4] [.bool]
def Jt (f g:Nat)(p:List Nat):Sg→KT→Option AV:=xc (bn fi0 hs0 f 0) Js g f (sub (f237.body.getD .skip) p)
def oK (g n:Nat):eM AV:=λs f i=>aE 0 oJ (Jt g 0 [1,1,1,1,1,0,1,0,0]) (aj 0 (aL 0 none (Jt g 0 [1,1,1,1,1,1]) Xm)) n ⟨mkE 39 [(0,.val .str s),(7,.val .bool f),(8,.val tInt i)],mkH 0 []⟩
def Ol (f g:Nat):oK f (g+1)=mq true (sm ac) (oK f g):=Φ
def Om:∀n,oK FU n=mp3 ac (oL n):=bo Φ λf _ h=>(Ol FU f).trans (by rw[h];funext _ _ _;simp only[mq,jQ,mt,ss])
def Xl:ar prog 237 (Jr):=evX func237 (S:=Js) cJ (ag ⟨ae4,aoG⟩) (tys:=[.bool]) (λf x=>vW true (sm ac) (oK f f) x.1 x.2.1) (λx=>by show _=Option.map ac _;rw[Om FU];simp only[vW,ja,jQ,mt,ss])
abbrev xF (C:Type):=Str→Int→Int→Bool→Option C
abbrev Fj (C:Type):=Str→Option C
def pE (m:Bool)(K:Bool→Option C):Fj C:=λs=>K (decide (s=[]))
def d8 (m:Bool)(K:Bool→Option C):xF C:=λs r1 f g=>cond g (K (decide (r1=1))) (cond (f=9) (nq m [2,0] (!r1=2) (K (cond (r1=2) true (decide (r1=4))))) (cond (f=16) (nq m [2,0] (!r1=1) (K (cond (r1=1) true (decide (r1=3))))) (cond (f=10) (K (decide (r1=5))) (cond (f=11) (K (decide (r1=6))) (cond (f=21) (cl m .bool (u4 s) (λj=>K j)) (pE m K s))))))
def kX (m:Bool)(K:Bool→Option C):xF C:=λs r1 f j=>cond j (K (decide (r1=2))) (cond (f=2) (fz m .bool (decide (f=2)) (λg=>d8 m K s r1 f g)) (cond (f=4) (fz m .bool (decide (f=4)) (λg=>d8 m K s r1 f g)) (cond (f=12) (fz m .bool (decide (f=12)) (λg=>d8 m K s r1 f g)) (fz m .bool (decide (f=20)) (λg=>d8 m K s r1 f g)))))
def oM (m:Bool)(K:Bool→Option C)(f:Int)(s:Str):Option C:=cl m tInt (lY s) λr1=>cond (f=1) (fz m .bool (decide (f=1)) (λg=>kX m K s r1 f g)) (fz m .bool (decide (f=3)) (λg=>kX m K s r1 f g))
def iy (f:Int)(s:Str):Option Bool:=oM false some f s
def Dk:Ent:=evE (.cons tInt (.cons .str .unit)) ac (zero .bool) λx=>iy x.1 x.2.1
def Ix:MS:=⟨0,[],[(1,.dat .str),(5,.dat tInt),(8,.dat tInt),(9,.dat .bool)]⟩
def Fl:MS:=⟨0,[],[(1,.dat .str),(5,.dat tInt),(8,.dat tInt),(14,.dat .bool)]⟩
def Fk:MS:=⟨0,[],[(1,.dat .str)]⟩
def Oq:Par:=⟨kY.tab,az [(235,H9),(286,V8)],λ_=>look [(5,Ix),(10,Fl),(21,Fk)],λ_=>look []⟩
def Oo:ar prog 273 (Dk):=evX func273 (S:=Oq) cJ (ag ⟨Rw,afc,aoG⟩) (tys:=[.bool]) (λf x=>oM true (sm ac) x.1 x.2.1) (λx=>by show _=Option.map ac _;simp only[oM,iy,d8,pE,kX,ss])
end
abbrev aJ:Ty:=.cons tInt (.cons .bool (.cons .str (.cons tInt .unit)))
abbrev aa:Ty:=(.cons tInt (.cons tInt (.cons aJ .unit)))
abbrev Υ:=List aa.den
abbrev tCommit:Ty:=.cons tInt (.cons (.slice tInt) (.cons (.slice tInt) (.cons .str (.cons (.slice aa) .unit))))
abbrev Λ:=List tCommit.den
abbrev aO:Ty:=(.cons (.slice aa) .unit)
def fce (i:Nat)(f n:Int)(s:List Nat)(r:Nat):aa.den:=(Int.ofNat (Nat.add 1048576 i),f,(n,false,s.map UInt8.ofNat,(match r with|0=>0|r+1=>Int.ofNat (Nat.add 1048577 r)),()),())
def fst0:tCommit.den:=(1048594,[],[],[102,105,114,115,116],[fce 1 1 1 [] 0,fce 1 2 1 [] 0,fce 1 3 0 [77] 0,fce 1 9 0 [32] 0,fce 1 10 0 [10] 0,fce 2 1 2 [] 0,fce 2 2 0 [105,114] 1,fce 2 3 0 [102] 0,fce 2 8 0 [10] 0,fce 2 9 0 [32] 0,fce 2 13 0 [32] 0,fce 3 1 4 [] 0,fce 3 2 0 [105,114] 2,fce 3 3 0 [120] 0,fce 4 1 5 [] 0,fce 4 2 1 [] 3,fce 4 4 5 [] 0,fce 4 8 0 [32] 0,fce 5 1 4 [] 0,fce 5 2 0 [114,105] 2,fce 5 3 0 [121] 0,fce 5 8 0 [32] 0,fce 6 1 5 [] 0,fce 6 2 1 [] 5,fce 6 4 5 [] 0,fce 6 8 0 [32] 0,fce 7 1 5 [] 0,fce 7 2 1 [] 2,fce 7 4 5 [] 0,fce 7 8 0 [32] 0,fce 8 1 5 [] 0,fce 8 2 2 [] 2,fce 8 4 21 [43] 0,fce 8 8 0 [32] 0,fce 9 1 5 [] 0,fce 9 2 1 [] 8,fce 9 4 12 [] 3,fce 9 8 0 [32] 0,fce 10 1 5 [] 0,fce 10 2 2 [] 8,fce 10 4 12 [] 5,fce 10 8 0 [32] 0,fce 11 1 2 [] 0,fce 11 2 0 [114,105] 1,fce 11 3 0 [103] 0,fce 11 8 0 [10] 0,fce 11 9 0 [32] 0,fce 11 13 0 [32] 0,fce 12 1 5 [] 0,fce 12 2 1 [] 11,fce 12 4 5 [] 0,fce 12 8 0 [32] 0,fce 13 1 5 [] 0,fce 13 2 2 [] 11,fce 13 4 16 [] 2,fce 13 8 0 [32] 0,fce 14 1 5 [] 0,fce 14 2 0 [105,114] 13,fce 14 4 17 [] 3,fce 15 1 5 [] 0,fce 15 2 1 [] 14,fce 15 4 10 [49] 0,fce 16 1 5 [] 0,fce 16 2 0 [114,105] 13,fce 16 4 17 [] 5,fce 17 1 5 [] 0,fce 17 2 1 [] 16,fce 17 4 10 [50] 0,fce 17 8 0 [32] 0],())
def fst1:tCommit.den:=(1048589,[],[],[102,105,114,115,116],[fce 1 1 1 [] 0,fce 1 2 1 [] 0,fce 1 3 0 [77] 0,fce 1 9 0 [32] 0,fce 1 10 0 [32,35,32,99,10] 0,fce 2 1 2 [] 0,fce 2 2 0 [110,98] 1,fce 2 3 0 [102] 0,fce 2 8 0 [10] 0,fce 2 9 0 [32] 0,fce 2 13 0 [32] 0,fce 3 1 4 [] 0,fce 3 2 0 [110,98] 2,fce 3 3 0 [120] 0,fce 4 1 5 [] 0,fce 4 2 1 [] 3,fce 4 4 5 [] 0,fce 4 8 0 [32] 0,fce 5 1 5 [] 0,fce 5 2 1 [] 2,fce 5 4 5 [] 0,fce 5 8 0 [32] 0,fce 6 1 5 [] 0,fce 6 2 2 [] 2,fce 6 4 12 [] 3,fce 6 8 0 [32] 0,fce 7 1 1 [] 0,fce 7 2 1 [] 0,fce 7 3 0 [78] 0,fce 7 9 0 [32] 0,fce 7 10 0 [10] 0,fce 8 1 2 [] 0,fce 8 2 0 [110,98] 7,fce 8 3 0 [107] 0,fce 8 8 0 [10] 0,fce 8 9 0 [32] 0,fce 8 13 0 [32] 0,fce 9 1 5 [] 0,fce 9 2 1 [] 8,fce 9 4 5 [] 0,fce 9 8 0 [32] 0,fce 10 1 5 [] 0,fce 10 2 2 [] 8,fce 10 4 16 [] 2,fce 10 8 0 [32] 0,fce 11 1 5 [] 0,fce 11 2 0 [110,98] 10,fce 11 4 17 [] 3,fce 12 1 5 [] 0,fce 12 2 1 [] 11,fce 12 4 10 [55] 0],())
def fst2:tCommit.den:=(1048588,[],[],[102,105,114,115,116],[fce 1 1 1 [] 0,fce 1 2 1 [] 0,fce 1 3 0 [77] 0,fce 1 9 0 [32] 0,fce 2 1 3 [] 0,fce 2 2 0 [105,114] 1,fce 2 3 0 [84] 0,fce 2 8 0 [32] 0,fce 2 9 0 [32] 0,fce 2 10 0 [32] 0,fce 3 1 5 [] 0,fce 3 2 1 [] 2,fce 3 4 8 [] 0,fce 3 8 0 [32] 0,fce 4 1 5 [] 0,fce 4 2 1 [] 3,fce 4 4 5 [] 0,fce 5 1 2 [] 0,fce 5 2 0 [114,105] 1,fce 5 3 0 [104] 0,fce 5 8 0 [32] 0,fce 5 9 0 [32] 0,fce 5 13 0 [32] 0,fce 6 1 4 [] 0,fce 6 2 0 [110,98] 5,fce 6 3 0 [97] 0,fce 7 1 5 [] 0,fce 7 2 1 [] 6,fce 7 4 9 [] 2,fce 7 8 0 [32] 0,fce 8 1 5 [] 0,fce 8 2 1 [] 5,fce 8 4 9 [] 2,fce 8 8 0 [32] 0,fce 9 1 5 [] 0,fce 9 2 2 [] 5,fce 9 4 18 [] 0,fce 9 8 0 [32] 0,fce 10 1 5 [] 0,fce 10 2 0 [105,114] 9,fce 10 4 10 [49] 0,fce 11 1 5 [] 0,fce 11 2 0 [114,105] 9,fce 11 4 10 [50] 0,fce 11 8 0 [32] 0],())
def fst3:tCommit.den:=(1048588,[],[],[102,105,114,115,116],[fce 1 1 1 [] 0,fce 1 2 1 [] 0,fce 1 3 0 [77] 0,fce 1 9 0 [32] 0,fce 1 10 0 [10] 0,fce 2 1 2 [] 0,fce 2 2 0 [110,98] 1,fce 2 3 0 [102] 0,fce 2 8 0 [10] 0,fce 2 9 0 [32] 0,fce 2 13 0 [32] 0,fce 3 1 4 [] 0,fce 3 2 0 [110,98] 2,fce 3 3 0 [98] 0,fce 4 1 5 [] 0,fce 4 2 1 [] 3,fce 4 4 7 [] 0,fce 4 8 0 [32] 0,fce 5 1 5 [] 0,fce 5 2 1 [] 2,fce 5 4 5 [] 0,fce 5 8 0 [32] 0,fce 6 1 5 [] 0,fce 6 2 2 [] 2,fce 6 4 19 [] 0,fce 6 8 0 [32] 0,fce 6 9 0 [32] 0,fce 6 10 0 [32] 0,fce 7 1 5 [] 0,fce 7 2 1 [] 6,fce 7 4 12 [] 3,fce 7 8 0 [32] 0,fce 8 1 5 [] 0,fce 8 2 2 [] 6,fce 8 4 10 [49] 0,fce 8 8 0 [32] 0,fce 9 1 5 [] 0,fce 9 2 3 [] 6,fce 9 4 20 [97] 0,fce 9 8 0 [32] 0,fce 9 9 0 [32] 0,fce 9 10 0 [32] 0,fce 9 11 0 [32] 0,fce 10 1 5 [] 0,fce 10 2 1 [] 9,fce 10 4 10 [50] 0,fce 10 8 0 [32] 0,fce 11 1 5 [] 0,fce 11 2 2 [] 9,fce 11 4 12 [] 9,fce 11 8 0 [32] 0],())
def fst4:tCommit.den:=(1048578,[],[],[102,105,114,115,116],[fce 1 1 1 [] 0,fce 1 2 1 [] 0,fce 1 3 0 [77] 0,fce 1 9 0 [32] 0,fce 1 10 0 [10] 0],())
def fst5:tCommit.den:=(1048585,[],[],[102,105,114,115,116],[fce 1 1 1 [] 0,fce 1 2 1 [] 0,fce 1 3 0 [77] 0,fce 1 9 0 [32] 0,fce 1 10 0 [10] 0,fce 2 1 2 [] 0,fce 2 2 0 [105,114] 1,fce 2 3 0 [102] 0,fce 2 8 0 [10] 0,fce 2 9 0 [32] 0,fce 2 13 0 [32] 0,fce 3 1 5 [] 0,fce 3 2 1 [] 2,fce 3 4 6 [] 0,fce 3 8 0 [32] 0,fce 4 1 5 [] 0,fce 4 2 2 [] 2,fce 4 4 11 [34,97,34] 0,fce 4 8 0 [32] 0,fce 5 1 2 [] 0,fce 5 2 0 [114,105] 1,fce 5 3 0 [103] 0,fce 5 8 0 [10] 0,fce 5 9 0 [32] 0,fce 5 13 0 [32] 0,fce 6 1 5 [] 0,fce 6 2 1 [] 5,fce 6 4 6 [] 0,fce 6 8 0 [32] 0,fce 7 1 5 [] 0,fce 7 2 2 [] 5,fce 7 4 22 [] 0,fce 7 8 0 [32] 0,fce 8 1 5 [] 0,fce 8 2 1 [] 7,fce 8 4 16 [] 2],())
def fst6:tCommit.den:=(1048602,[],[],[102,105,114,115,116],[fce 1 1 1 [] 0,fce 1 2 1 [] 0,fce 1 3 0 [77] 0,fce 1 9 0 [32] 0,fce 2 1 2 [] 0,fce 2 2 0 [105,114] 1,fce 2 3 0 [102] 0,fce 2 8 0 [32] 0,fce 2 9 0 [32] 0,fce 2 13 0 [32] 0,fce 3 1 4 [] 0,fce 3 2 0 [110,98] 2,fce 3 3 0 [120] 0,fce 4 1 5 [] 0,fce 4 2 1 [] 3,fce 4 4 5 [] 0,fce 4 8 0 [32] 0,fce 5 1 5 [] 0,fce 5 2 1 [] 2,fce 5 4 5 [] 0,fce 5 8 0 [32] 0,fce 6 1 5 [] 0,fce 6 2 2 [] 2,fce 6 4 21 [42] 0,fce 6 8 0 [32] 0,fce 7 1 5 [] 0,fce 7 2 1 [] 6,fce 7 4 16 [] 2,fce 7 8 0 [32] 0,fce 8 1 5 [] 0,fce 8 2 0 [110,98] 7,fce 8 4 17 [] 3,fce 9 1 5 [] 0,fce 9 2 1 [] 8,fce 9 4 12 [] 3,fce 10 1 5 [] 0,fce 10 2 2 [] 6,fce 10 4 10 [50] 0,fce 10 8 0 [32] 0,fce 11 1 2 [] 0,fce 11 2 0 [114,105] 1,fce 11 3 0 [103] 0,fce 11 8 0 [32] 0,fce 11 9 0 [32] 0,fce 11 13 0 [32] 0,fce 12 1 4 [] 0,fce 12 2 0 [105,114] 11,fce 12 3 0 [120] 0,fce 13 1 5 [] 0,fce 13 2 1 [] 12,fce 13 4 5 [] 0,fce 13 8 0 [32] 0,fce 14 1 4 [] 0,fce 14 2 0 [114,105] 11,fce 14 3 0 [121] 0,fce 14 8 0 [32] 0,fce 15 1 5 [] 0,fce 15 2 1 [] 14,fce 15 4 5 [] 0,fce 15 8 0 [32] 0,fce 16 1 5 [] 0,fce 16 2 1 [] 11,fce 16 4 7 [] 0,fce 16 8 0 [32] 0,fce 17 1 5 [] 0,fce 17 2 2 [] 11,fce 17 4 21 [60] 0,fce 17 8 0 [32] 0,fce 18 1 5 [] 0,fce 18 2 1 [] 17,fce 18 4 16 [] 2,fce 18 8 0 [32] 0,fce 19 1 5 [] 0,fce 19 2 0 [110,98] 18,fce 19 4 17 [] 3,fce 20 1 5 [] 0,fce 20 2 1 [] 19,fce 20 4 12 [] 12,fce 21 1 5 [] 0,fce 21 2 2 [] 17,fce 21 4 16 [] 2,fce 21 8 0 [32] 0,fce 22 1 5 [] 0,fce 22 2 0 [110,98] 21,fce 22 4 17 [] 3,fce 23 1 5 [] 0,fce 23 2 1 [] 22,fce 23 4 16 [] 2,fce 24 1 5 [] 0,fce 24 2 0 [110,98] 23,fce 24 4 17 [] 3,fce 25 1 5 [] 0,fce 25 2 1 [] 24,fce 25 4 12 [] 14],())
def fst7:tCommit.den:=(1048589,[],[],[102,105,114,115,116],[fce 1 1 1 [] 0,fce 1 2 1 [] 0,fce 1 3 0 [77] 0,fce 1 9 0 [32] 0,fce 1 10 0 [10] 0,fce 2 1 2 [] 0,fce 2 2 0 [110,98] 1,fce 2 3 0 [102] 0,fce 2 8 0 [10] 0,fce 2 9 0 [32] 0,fce 2 13 0 [32] 0,fce 3 1 4 [] 0,fce 3 2 0 [110,98] 2,fce 3 3 0 [120] 0,fce 4 1 5 [] 0,fce 4 2 1 [] 3,fce 4 4 5 [] 0,fce 4 8 0 [32] 0,fce 5 1 5 [] 0,fce 5 2 1 [] 2,fce 5 4 5 [] 0,fce 5 8 0 [32] 0,fce 6 1 5 [] 0,fce 6 2 2 [] 2,fce 6 4 16 [103] 0,fce 6 8 0 [32] 0,fce 7 1 5 [] 0,fce 7 2 0 [110,98] 6,fce 7 4 17 [] 0,fce 8 1 5 [] 0,fce 8 2 1 [] 7,fce 8 4 12 [] 3,fce 9 1 1 [] 0,fce 9 2 1 [] 0,fce 9 3 0 [78] 0,fce 9 9 0 [32] 0,fce 9 10 0 [10] 0,fce 10 1 2 [] 0,fce 10 2 0 [110,98] 9,fce 10 3 0 [102] 0,fce 10 8 0 [10] 0,fce 10 9 0 [32] 0,fce 10 13 0 [32] 0,fce 11 1 5 [] 0,fce 11 2 1 [] 10,fce 11 4 5 [] 0,fce 11 8 0 [32] 0,fce 12 1 5 [] 0,fce 12 2 2 [] 10,fce 12 4 15 [] 0,fce 12 8 0 [32] 0],())
def fstL:Int→tCommit.den
 |0=>fst0
 |1=>fst1
 |2=>fst2
 |3=>fst3
 |4=>fst4
 |5=>fst5
 |6=>fst6
 |_=>fst7
def firstF (x:Int):tCommit.den:=fstL ((mod2_ev x 8).getD 0)
section
def QJ:Ent:=sp1 tInt (λ_=>true) λf=>.val tCommit (firstF f)
end
