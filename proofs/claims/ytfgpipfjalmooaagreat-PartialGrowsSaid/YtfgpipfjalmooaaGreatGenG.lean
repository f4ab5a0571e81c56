/- The equations of the program's functions. -/
import Derived.Test.YtfgpipfjalmooaaGreatAbs1
import Derived.Test.YtfgpipfjalmooaaGreatChecked
set_option linter.all false
noncomputable section
namespace Go.Proofs.YtfgpipfjalmooaaGreat
namespace Abs
abbrev tInt:Ty :=.int .i64
abbrev bc:Ty:=.cons tInt (.cons tInt (.cons tInt (.cons tInt .unit)))
abbrev La':=List bc.den
abbrev sx:Ty:=(.cons tInt (.cons tInt .unit))
open Go Tryz
section
def j8:TabL:={
 ty:=[(3,tInt),(4,.bool),(5,(.int .u8)),(9,.str),(45,tInt),(288,bc)],
 cells:=[(3,1),(4,1),(5,1),(9,1),(45,1),(288,4)],
 offs:=[((288,0),0),((288,1),1),((288,2),2),((288,3),3)],
 one:=[],
 elem:=[] }
def cJ:TabOk prog j8.tab:=TabL.ok Φ
def follows:prog.follows .mixedOrders=true:=Φ
def fi0:FuncId→Option Fi:=λ_=>none
def Z8:∀f x,fi0 f=some x→FiOk prog f x:=λ_ _ h=>by cases h
variable{f:FuncId}{fn:Func}{S:Par}{C:Type}
def evX {R:Type}(P:prog.funcs[f]? = some fn)(C:TabOk prog S.tab)(r:SpecsOk prog S.T){a:Ty}{tys:List Ty}{o:R→AV}{z:R}{g:a.den→Option R}(T:Nat→a.den→Option AV)(p:∀y,T FU y=Option.map o (g y))(J:uP fn=true:=by kernel_rfl)(l:∀j y,lH fi0 hs0 0 (iP fn S) tys j (Uw a y)=T j y:=by intro _ _;kernel_rfl):aj prog f (evE a o z g):=ahT follows Z8 er P C r T p J l
def nwX (U:prog.funcs[f]? = some fn)(P:TabOk prog S.tab)(J:SpecsOk prog S.T){l a:Ty}{e:TypeId}{g:a.den→Option (List l.den)}(T:Nat→a.den→Option AV)(C:∀y,T FU y=Option.map (λr=>.val (.slice l) r) (g y))(R:uP fn=true:=by kernel_rfl)(p:∀j y,Ym fi0 hs0 0 (iP fn S) l e j (Uw a y)=T j y:=by intro _ _;kernel_rfl):Sn prog f (nwE l a e g):=ahL follows Z8 er U P J T C R p
def jL (c:Bool)(t:Ty)(x y:t.den):cond c (some (AV.val t x)) (some (AV.val t y))=some (AV.val t (cond c x y)):=by cases c <;> rfl
def nG (c:Int):Bool:=cond (c≥97) (decide (c≤122)) false
def E9:List (Nat×Ent):=[]
def Zf:Par:=⟨j8.tab,aF E9,λ_=>look [],λ_=>look []⟩
def Ze:Code:=(f280.body).getD .skip
def NR:Fi:=⟨Zf,9,[.tmp 2],Ze⟩
def yZ:KT:=bB j8.tab [.tmp 2] [.bool]
def xn (f:Nat)(c:Int):Option AV:=lH fi0 hs0 0 NR [.bool] f [.val (.int .u8) c]
def Rb (f:Nat)(c:Int):xn f c=cond (aN (decide (c≥97)) (decide (c≥97))&&true&&true) (cond (aN (decide (c≥97)) (decide (c≥97))&&true) (some (.val .bool (cond (c≥97) (decide (c≤122)) false))) none) none:=Φ
def VN (f:Nat)(c:Int):xn f c=some (.val .bool (cond (c≥97) (decide (c≤122)) false)):=by simpa only[aK,cd,z?,q?,O',E_,x?,p?,h?,r?,Int.reduceLE,Int.reduceEq,Int.reduceLT,b_]using Rb f c
def VM:bD prog E9→FiOk prog 280 (NR):=λh=>⟨⟨f280,func280,rfl,Φ,Φ,Φ⟩,cJ,af h⟩
def tn:Ent:=sp1 (.int .u8) (λ_=>true) λf=>.val .bool (nG f)
def Rc (l:bD prog E9)(h:∀(f:Int),∃g,xn g f=some (.val .bool (nG f))):aj prog 280 tn:=sD λf _=>(let ⟨_,j⟩:=h f;bi follows (λ_ _ h=>by cases h) er (VM l) (ds:=[⟨_,f⟩]) j)
def E8:aj prog 280 tn:=Rc trivial (λc=>⟨0,by rw[VN];first|rfl|(simp only[jL];rfl)⟩)
def iU (c:Int):Bool:=cond (c≥65) (decide (c≤90)) false
def Do:List (Nat×Ent):=[]
def XC:Par:=⟨j8.tab,aF Do,λ_=>look [],λ_=>look []⟩
def XB:Code:=(f281.body).getD .skip
def Mb:Fi:=⟨XC,9,[.tmp 2],XB⟩
def wQ (f:Nat)(c:Int):Option AV:=lH fi0 hs0 0 Mb [.bool] f [.val (.int .u8) c]
def PN (f:Nat)(c:Int):wQ f c=cond (aN (decide (c≥65)) (decide (c≥65))&&true&&true) (cond (aN (decide (c≥65)) (decide (c≥65))&&true) (some (.val .bool (cond (c≥65) (decide (c≤90)) false))) none) none:=Φ
def Uy (f:Nat)(c:Int):wQ f c=some (.val .bool (cond (c≥65) (decide (c≤90)) false)):=by simpa only[aK,cd,z?,q?,O',E_,x?,p?,h?,r?,Int.reduceLE,Int.reduceEq,Int.reduceLT,b_]using PN f c
def Ux:bD prog Do→FiOk prog 281 (Mb):=λh=>⟨⟨f281,func281,rfl,Φ,Φ,Φ⟩,cJ,af h⟩
def oW:Ent:=sp1 (.int .u8) (λ_=>true) λf=>.val .bool (iU f)
def PO (l:bD prog Do)(h:∀(f:Int),∃g,wQ g f=some (.val .bool (iU f))):aj prog 281 oW:=sD λf _=>(let ⟨_,j⟩:=h f;bi follows (λ_ _ h=>by cases h) er (Ux l) (ds:=[⟨_,f⟩]) j)
def xU:aj prog 281 oW:=PO trivial (λc=>⟨0,by rw[Uy];first|rfl|(simp only[jL];rfl)⟩)
def vw (c:Int):Bool:=cond (c≥48) (decide (c≤57)) false
def F4:List (Nat×Ent):=[]
def aax:Par:=⟨j8.tab,aF F4,λ_=>look [],λ_=>look []⟩
def aaw:Code:=(f279.body).getD .skip
def O3:Fi:=⟨aax,9,[.tmp 2],aaw⟩
def xw (f:Nat)(c:Int):Option AV:=lH fi0 hs0 0 O3 [.bool] f [.val (.int .u8) c]
def RZ (f:Nat)(c:Int):xw f c=cond (aN (decide (c≥48)) (decide (c≥48))&&true&&true) (cond (aN (decide (c≥48)) (decide (c≥48))&&true) (some (.val .bool (cond (c≥48) (decide (c≤57)) false))) none) none:=Φ
def WB (f:Nat)(c:Int):xw f c=some (.val .bool (cond (c≥48) (decide (c≤57)) false)):=by simpa only[aK,cd,z?,q?,O',E_,x?,p?,h?,r?,Int.reduceLE,Int.reduceEq,Int.reduceLT,b_]using RZ f c
def Wz:bD prog F4→FiOk prog 279 (O3):=λh=>⟨⟨f279,func279,rfl,Φ,Φ,Φ⟩,cJ,af h⟩
def zJ:Ent:=sp1 (.int .u8) (λ_=>true) λf=>.val .bool (vw f)
def R0 (l:bD prog F4)(h:∀(f:Int),∃g,xw g f=some (.val .bool (vw f))):aj prog 279 zJ:=sD λf _=>(let ⟨_,j⟩:=h f;bi follows (λ_ _ h=>by cases h) er (Wz l) (ds:=[⟨_,f⟩]) j)
def O2:aj prog 279 zJ:=R0 trivial (λc=>⟨0,by rw[WB];first|rfl|(simp only[jL];rfl)⟩)
def vd (m:Bool)(K:Bool→Option C)(c:Int):Option C:=ce m .bool true (nG c) λr1=>let a:=cond r1 true (iU c);nq m [2,0] (!r1) (nq m [2,0] (!cond r1 true (iU c)) (nq m [2,0] (!cond a true (vw c)) (K (cond (cond a true (vw c)) true (decide (c=95))))))
def iM (c:Int):Option Bool:=vd false some c
def ac (r:Bool):AV :=.val .bool r
def Iv:Ent:=evE (.cons (.int .u8) .unit) ac (zero .bool) λx=>iM x.1
def Wk:Par:=⟨j8.tab,aF [(280,tn),(281,oW),(279,zJ)],λ_=>look [],λ_=>look []⟩
def Wi:aj prog 367 (Iv):=evX func367 (S:=Wk) cJ (af ⟨E8,xU,O2,anO⟩) (tys:=[.bool]) (λf x=>vd true (sm ac) x.1) (λx=>by show _=Option.map ac _;simp only[vd,iM,ss])
def qk (c:Int):Bool:=cond (cond (cond (c=9) true (c=10)) true (c=13)) true (decide (c=32))
def Di:List (Nat×Ent):=[]
def Xv:Par:=⟨j8.tab,aF Di,λ_=>look [],λ_=>look []⟩
def Xu:Code:=(f276.body).getD .skip
def LW:Fi:=⟨Xv,17,[.tmp 2],Xu⟩
def wP (f:Nat)(c:Int):Option AV:=lH fi0 hs0 0 LW [.bool] f [.val (.int .u8) c]
def PE (f:Nat)(c:Int):wP f c=cond (aN (!c=9) (!c=9)&&true&&true) (cond (aN (!c=9) (!c=9)) (cond (aN (!cond (c=9) true (c=10)) (!cond (c=9) true (c=10))&&true&&true) (cond (aN (!cond (c=9) true (c=10)) (!cond (c=9) true (c=10))) (cond (aN (!cond (cond (c=9) true (c=10)) true (c=13)) (!cond (cond (c=9) true (c=10)) true (c=13))&&true&&true) (cond (aN (!cond (cond (c=9) true (c=10)) true (c=13)) (!cond (cond (c=9) true (c=10)) true (c=13))) (some (.val .bool (cond (cond (cond (c=9) true (c=10)) true (c=13)) true (decide (c=32))))) none) none) none) none) none) none:=Φ
def Ut (f:Nat)(c:Int):wP f c=some (.val .bool (cond (cond (cond (c=9) true (c=10)) true (c=13)) true (decide (c=32)))):=by simpa only[aK,cd,z?,q?,O',E_,x?,p?,h?,r?,Int.reduceLE,Int.reduceEq,Int.reduceLT,b_]using PE f c
def Us:bD prog Di→FiOk prog 276 (LW):=λh=>⟨⟨f276,func276,rfl,Φ,Φ,Φ⟩,cJ,af h⟩
def se:Ent:=sp1 (.int .u8) (λ_=>true) λf=>.val .bool (qk f)
def PG (l:bD prog Di)(h:∀(f:Int),∃g,wP g f=some (.val .bool (qk f))):aj prog 276 se:=sD λf _=>(let ⟨_,j⟩:=h f;bi follows (λ_ _ h=>by cases h) er (Us l) (ds:=[⟨_,f⟩]) j)
def Dh:aj prog 276 se:=PG trivial (λc=>⟨0,by rw[Ut];first|rfl|(simp only[jL];rfl)⟩)
def uO (c:Int):Bool:=cond (c≥32) (decide (c≤126)) false
def w8:List (Nat×Ent):=[]
def QD:Par:=⟨j8.tab,aF w8,λ_=>look [],λ_=>look []⟩
def QC:Code:=(f278.body).getD .skip
def Ep:Fi:=⟨QD,9,[.tmp 2],QC⟩
def qS (f:Nat)(c:Int):Option AV:=lH fi0 hs0 0 Ep [.bool] f [.val (.int .u8) c]
def Kb (f:Nat)(c:Int):qS f c=cond (aN (decide (c≥32)) (decide (c≥32))&&true&&true) (cond (aN (decide (c≥32)) (decide (c≥32))&&true) (some (.val .bool (cond (c≥32) (decide (c≤126)) false))) none) none:=Φ
def Nj (f:Nat)(c:Int):qS f c=some (.val .bool (cond (c≥32) (decide (c≤126)) false)):=by simpa only[aK,cd,z?,q?,O',E_,x?,p?,h?,r?,Int.reduceLE,Int.reduceEq,Int.reduceLT,b_]using Kb f c
def Ni:bD prog w8→FiOk prog 278 (Ep):=λh=>⟨⟨f278,func278,rfl,Φ,Φ,Φ⟩,cJ,af h⟩
def qT:Ent:=sp1 (.int .u8) (λ_=>true) λf=>.val .bool (uO f)
def Kc (l:bD prog w8)(h:∀(f:Int),∃g,qS g f=some (.val .bool (uO f))):aj prog 278 qT:=sD λf _=>(let ⟨_,j⟩:=h f;bi follows (λ_ _ h=>by cases h) er (Ni l) (ds:=[⟨_,f⟩]) j)
def Eo:aj prog 278 qT:=Kc trivial (λc=>⟨0,by rw[Nj];first|rfl|(simp only[jL];rfl)⟩)
def rF (m:Bool)(K:Bool→Option C)(c:Int):Option C:=ce m .bool true (qk c) λr1=>nq m [2,0] (!r1) (K (cond r1 true (uO c)))
def fa (c:Int):Option Bool:=rF false some c
def xG:Ent:=evE (.cons (.int .u8) .unit) ac (zero .bool) λx=>fa x.1
def Sj:Par:=⟨j8.tab,aF [(276,se),(278,qT)],λ_=>look [],λ_=>look []⟩
def Gz:aj prog 277 (xG):=evX func277 (S:=Sj) cJ (af ⟨Dh,Eo,anO⟩) (tys:=[.bool]) (λf x=>rF true (sm ac) x.1) (λx=>by show _=Option.map ac _;simp only[rF,fa,ss])
abbrev bf (C:Type):=Bool→Option C
abbrev aG (C:Type):=Option C
def iX (m:Bool)(K:Bool→Option C)(f:aG C):bf C:=λg=>cond g (K true) f
def iW (m:Bool)(K:Bool→Option C):aG C:=(K false)
def nu (m:Bool)(K:Bool→Option C)(f:bf C)(s:Str):Option C:=cond (s=[109,111,100,117,108,101]) (fz m .bool (decide (s=[109,111,100,117,108,101])) (λg=>f g)) (cond (s=[100,101,102]) (fz m .bool (decide (s=[100,101,102])) (λg=>f g)) (cond (s=[116,121,112,101]) (fz m .bool (decide (s=[116,121,112,101])) (λg=>f g)) (cond (s=[108,101,116]) (fz m .bool (decide (s=[108,101,116])) (λg=>f g)) (cond (s=[105,110]) (fz m .bool (decide (s=[105,110])) (λg=>f g)) (cond (s=[105,102]) (fz m .bool (decide (s=[105,102])) (λg=>f g)) (cond (s=[116,104,101,110]) (fz m .bool (decide (s=[116,104,101,110])) (λg=>f g)) (cond (s=[101,108,115,101]) (fz m .bool (decide (s=[101,108,115,101])) (λg=>f g)) (cond (s=[116,114,117,101]) (fz m .bool (decide (s=[116,114,117,101])) (λg=>f g)) (cond (s=[102,97,108,115,101]) (fz m .bool (decide (s=[102,97,108,115,101])) (λg=>f g)) (cond (s=[73,110,116]) (fz m .bool (decide (s=[73,110,116])) (λg=>f g)) (cond (s=[84,101,120,116]) (fz m .bool (decide (s=[84,101,120,116])) (λg=>f g)) (fz m .bool (decide (s=[66,111,111,108])) (λg=>f g)))))))))))))
def gU:aG Bool:=iW false some
def gV:bf Bool:=iX false some gU
def cT (s:Str):Option Bool:=nu false some gV s
def BH:Ent:=evE (.cons .str .unit) ac (zero .bool) λx=>cT x.1
def sL:MS:=⟨0,[],[(4,.dat .bool)]⟩
def bZ:MS:=⟨0,[],[]⟩
def BI:Par:=⟨j8.tab,aF [],λ_=>look [(15,sL),(16,bZ)],λ_=>look []⟩
def sM (f g:Nat)(p:List Nat):Sg→KT→Option AV:=xc (bu fi0 hs0 f 0) BI g f (sub (f320.body.getD .skip) p)
def lK (f:Nat):bf AV:=λg=>sM f 0 [1,0,1,0,1] ⟨mkE 18 [(4,.val .bool g)],mkH 0 []⟩ (am 0 (be 0 (some bZ) (sM f 0 [1,1]) yZ))
def lJ (f:Nat):aG AV:=sM f 0 [1,1] ⟨mkE 18 [],mkH 0 []⟩ yZ
def Ea (f:Nat):lK f=iX true (sm ac) (lJ f):=Φ
def D6 (f:Nat):lJ f=iW true (sm ac):=Φ
def D7:lJ FU=mp0 ac (gU):=(D6 FU).trans (by simp only[iW,gU,ss])
def Eb:lK FU=mp1 ac (gV):=(Ea FU).trans (by rw[D7];funext _;simp only[iX,gV,ss])
def MY:aj prog 320 (BH):=evX func320 (S:=BI) cJ (af trivial) (tys:=[.bool]) (λf x=>nu true (sm ac) (lK f) x.1) (λx=>by show _=Option.map ac _;rw[Eb];simp only[nu,cT,ss])
abbrev aH (C:Type):=Str→Int→Int→Option C
def ZE (f:Int):Bool:=(iM f).isSome
def ZF (f:Int):Bool:=(iM f).getD (zero .bool)
def sd (m:Bool)(K:Int→Option C)(g:aH C):aH C:=λs l f=>nm m 2 (f<il s) (bd f s.length) (nm m 1 (f<il s) (ZE (ixs s f)) (nq m [1] (f<il s) (cond (cond (f<il s) (ZF (ixs s f)) false) (fz m tInt (w64 (f+1)) (λj=>g s l j)) (K (w64 (f-l))))))
def Cq (m:Bool)(K:Int→Option C)(g:aH C)(s:Str)(f:Int):Option C:=let d:=bd f s.length;let c:=ixs s f;let b:Bool:=!f≥il s;let a:Bool:=!f≥il s&&!nG c;nm m 2 b d (nq m [2,2,2] b (nm m 2 a d (nq m [2,2] a (nm m 0 b (ii a&&true) (nq m [0] b (cond (cond (f≥il s) true (cond (!nG c) (!iU c) false)) (K 0) (g s f f)))))))
def ui:Nat→aH Int:=lp (λ_ _ _=>none) λf=>sd false some f
def jb (s:Str)(f:Int):Option Int:=Cq false some (ui FU) s f
def av (r:Int):AV :=.val tInt r
def Sp:Ent:=evE (.cons .str (.cons tInt .unit)) av (zero tInt) λx=>jb x.1 x.2.1
def Hq:MS:=⟨0,[],[(0,.dat .str),(1,.dat tInt),(5,.dat tInt)]⟩
def Sq:Par:=⟨j8.tab,aF [(280,tn),(281,oW),(367,Iv)],λ_=>look [],λ_=>look [(4,Hq)]⟩
def Jt:KT:=bB j8.tab [.tmp 4] [tInt]
def Sr (f g:Nat)(p:List Nat):Sg→KT→Option AV:=xc (bu fi0 hs0 f 0) Sq g f (sub (f319.body.getD .skip) p)
def uh (f n:Nat):aH AV:=λs j g=>aT 0 Hq (Sr f 0 [1,1,1,0,0,0]) (am 0 (be 0 none (Sr f 0 [1,1,1,1]) Jt)) n ⟨mkE 40 [(0,.val .str s),(1,.val tInt j),(5,.val tInt g)],mkH 0 []⟩
def Uq (f g:Nat):uh f (g+1)=sd true (sm av) (uh f g):=Φ
def Ur:∀n,uh FU n=mp3 av (ui n):=cM Φ λf _ h=>(Uq FU f).trans (by rw[h];funext _ _ _;simp only[sd,ss])
def abU:aj prog 319 (Sp):=evX func319 (S:=Sq) cJ (af ⟨E8,xU,Wi,anO⟩) (tys:=[tInt]) (λf x=>Cq true (sm av) (uh f f) x.1 x.2.1) (λx=>by show _=Option.map av _;rw[Ur FU];simp only[Cq,jb,ss])
def uF (m:Bool)(K:Int→Option C)(f:aG C):bf C:=λg=>cond g (K 1) f
def uE (m:Bool)(K:Int→Option C):aG C:=(K 0)
def Cw (m:Bool)(K:Int→Option C)(p:bf C)(s:Str)(J:Int):Option C:=let l:=w64 (J+1);let k:Bool:=ixs s J=60;let j:Bool:=ixs s J=42;let i:Bool:=ixs s J=45;let h:Bool:=ixs s J=43;let g:Bool:=ixs s J=44;let f:Bool:=ixs s J=58;let e:Bool:=ixs s J=93;let d:Bool:=ixs s J=91;let c:Bool:=ixs s J=41;let b:Bool:=ixs s J=40;let a:Bool:=w64 (J+1)<il s;ck (bd J s.length) (cond (ixs s J=61) (nq m [2] a (nm m 2 a (bd l s.length) (nq m [2,1] a (cond (cond a (ixs s l=61) false) (K 2) (K 1))))) (cond b (fz m .bool b (λr=>p r)) (cond c (fz m .bool c (λr=>p r)) (cond d (fz m .bool d (λr=>p r)) (cond e (fz m .bool e (λr=>p r)) (cond f (fz m .bool f (λr=>p r)) (cond g (fz m .bool g (λr=>p r)) (cond h (fz m .bool h (λr=>p r)) (cond i (fz m .bool i (λr=>p r)) (cond j (fz m .bool j (λr=>p r)) (cond k (fz m .bool k (λr=>p r)) (fz m .bool (decide (ixs s J=63)) (λr=>p r)))))))))))))
def qI:aG Int:=uE false some
def qJ:bf Int:=uF false some qI
def sE (s:Str)(f:Int):Option Int:=Cw false some qJ s f
def SI:Ent:=evE (.cons .str (.cons tInt .unit)) av (zero tInt) λx=>sE x.1 x.2.1
def P9:MS:=⟨0,[],[(22,.dat .bool)]⟩
def SJ:Par:=⟨j8.tab,aF [],λ_=>look [(17,P9),(18,bZ)],λ_=>look []⟩
def JH (f g:Nat)(p:List Nat):Sg→KT→Option AV:=xc (bu fi0 hs0 f 0) SJ g f (sub (f283.body.getD .skip) p)
def wV (f:Nat):bf AV:=λg=>JH f 0 [1,0,1,0,1,1,1] ⟨mkE 34 [(22,.val .bool g)],mkH 0 []⟩ (am 0 (be 0 (some bZ) (JH f 0 [1,1]) Jt))
def wU (f:Nat):aG AV:=JH f 0 [1,1] ⟨mkE 34 [],mkH 0 []⟩ Jt
def Qc (f:Nat):wV f=uF true (sm av) (wU f):=Φ
def Qa (f:Nat):wU f=uE true (sm av):=Φ
def Qb:wU FU=mp0 av (qI):=(Qa FU).trans (by simp only[uE,qI,ss])
def Qd:wV FU=mp1 av (qJ):=(Qc FU).trans (by rw[Qb];funext _;simp only[uF,qJ,ss])
def aca:aj prog 283 (SI):=evX func283 (S:=SJ) cJ (af trivial) (tys:=[tInt]) (λf x=>Cw true (sm av) (wV f) x.1 x.2.1) (λx=>by show _=Option.map av _;rw[Qd];simp only[Cw,sE,ss])
abbrev LT (C:Type):=Int→Int→Int→Str→Int→Option C
def qj (m:Bool)(K:bc.den→Option C):LT C:=λg r1 j s f=>let a:=w64 (g+r1)+1;nq m [2,0] (!r1>24) (cond (cond (r1>24) true (j>24)) (K (0,0,3,g,())) (cl m .bool (cT ((List.take (Int.toNat (w64 (w64 a+j))) s).drop (Int.toNat (w64 a)))) (λl=>cond l (K (0,0,2,g,())) (K (w64 (w64 (r1+1)+j),f,0,0,())))))
def Qr (f:Str):Bool:=(cT f).isSome
def gc (f:Str):Bool:=(cT f).getD (zero .bool)
def Xt (g:Str)(f:Int):Bool:=(jb g f).isSome
def Ju (g:Str)(f:Int):Int:=(jb g f).getD (zero tInt)
def xN (m:Bool)(K:bc.den→Option C)(s:Str)(p:Int):Option C:=let l:=iU (ixs s p);let k:=bd p s.length;let g:=Int.toNat p;cl m tInt (jb s p) λr1=>let h:=w64 (p+r1);let c:=List.take (Int.toNat h) s;let b:=w64 (p+r1)+1;let i:=w64 b;let n:=Int.toNat i;ck (0≤p&&p≤w64 (p+r1)&&w64 (p+r1)≤(s.length:Int)) (ck k (ce m .bool true l (λJ=>let e:Bool:=cond J (!gc (c.drop g)) false;let a:Bool:=cond e (w64 b<il s) false;let d:Bool:=cond a (ixs s h=46) false;nm m 1 J (Qr (c.drop g)) (nq m [2,1] J (nq m [2,2,3,1] e (nm m 2 a (bd h s.length) (nq m [2,1] a (nq m [2] d (nm m 2 d (Xt s i) (nq m [2,1] d (cond (cond d (Ju s i>0) false) (cl m tInt (jb s i) (λr=>let j:=w64 b+r;let f:=List.take (Int.toNat (w64 j)) s;ck (0≤w64 b&&w64 b≤w64 j&&w64 j≤(s.length:Int)) (ck (bd 0 (f.drop n).length) (ce m .bool true (iU (ixs (f.drop n) 0)) (λT=>cond T (qj m K p r1 r s 4) (qj m K p r1 r s 3)))))) (cond (r1>24) (K (0,0,3,p,())) (cl m .bool (cT (c.drop g)) (λR=>cond R (K (r1,7,0,0,())) (ck k (ce m .bool true l (λP=>cond P (K (r1,2,0,0,())) (K (r1,1,0,0,())))))))))))))))))))
def oS (s:Str)(f:Int):Option bc.den:=xN false some s f
def fF (r:bc.den):AV :=.val bc r
def LV:Ent:=evE (.cons .str (.cons tInt .unit)) fF (zero bc) λx=>oS x.1 x.2.1
def LU:MS:=⟨1,[(0,[.dat tInt,.dat tInt,.dat tInt,.dat tInt])],[(1,.dat tInt),(4,.keep),(5,.dat tInt),(8,.dat tInt),(9,.dat .str),(10,.dat tInt)]⟩
def Xr:Par:=⟨j8.tab,aF [(319,Sp),(281,oW),(320,BH)],λ_=>look [(10,LU)],λ_=>look []⟩
def Xq:aj prog 282 (LV):=evX func282 (S:=Xr) cJ (af ⟨abU,xU,MY,anO⟩) (tys:=[bc]) (λf x=>xN true (sm fF) x.1 x.2.1) (λx=>by show _=Option.map fF _;simp only[xN,oS,qj,ss])
def sX (m:Bool)(K:bc.den→Option C)(g:aH C):aH C:=λs l f=>let b:=K (0,0,2,l,());let a:=bd f s.length;cond (f<il s) (ck a (cond (ixs s f=34) (K (w64 (w64 (f+1)-l),6,0,0,())) (ck a (cl m .bool (fa (ixs s f)) (λr=>cond (!r) (K (0,0,1,f,())) (ck a (ce m .bool true (uO (ixs s f)) (λp=>nm m 2 (!!p) a (nq m [2,0] (!!p) (cond (cond (!p) true (ixs s f=92)) b (fz m tInt (w64 (f+1)) (λj=>g s l j)))))))))))) b
def pq (m:Bool)(K:bc.den→Option C)(j:aH C):aH C:=λs g f=>let a:Bool:=w64 (f-g)>1;nm m 2 (f<il s) (bd f s.length) (nq m [2,1] (f<il s) (cond (cond (f<il s) (vw (ixs s f)) false) (fz m tInt (w64 (f+1)) (λl=>j s g l)) (nq m [2,1] a (cond (cond a (ixs s g=48) false) (K (0,0,2,g,())) (cond (w64 (f-g)>15) (K (0,0,3,g,())) (K (w64 (f-g),5,0,0,())))))))
def CI (m:Bool)(K:bc.den→Option C)(j:aH C)(g:aH C)(s:Str)(f:Int):Option C:=let a:=ixs s f;ck (bd f s.length) (cl m .bool (fa a) (λr1=>cond (!r1) (K (0,0,1,f,())) (cond (ixs s f=34) (fz m tInt (w64 (f+1)) (λl=>j s f l)) (ce m .bool true (vw a) (λP=>cond P (g s f f) (ce m .bool true (nG a) (λr=>nq m [2,0] (!r) (cond (cond r true (iU a)) (cl m bc (oS s f) (λJ=>K J)) (cl m tInt (sE s f) (λp=>cond (p=0) (K (0,0,2,f,())) (K (p,8,0,0,()))))))))))))
def uT:Nat→aH bc.den:=lp (λ_ _ _=>none) λf=>sX false some f
def qX:Nat→aH bc.den:=lp (λ_ _ _=>none) λf=>pq false some f
def sY (s:Str)(f:Int):Option bc.den:=CI false some (uT FU) (qX FU) s f
def Td:Ent:=evE (.cons .str (.cons tInt .unit)) fF (zero bc) λx=>sY x.1 x.2.1
def Id:MS:=⟨1,[(0,[.dat tInt,.dat tInt,.dat tInt,.dat tInt])],[(0,.dat .str),(1,.dat tInt),(4,.keep),(6,.dat tInt)]⟩
def EX:MS:=⟨1,[(0,[.dat tInt,.dat tInt,.dat tInt,.dat tInt])],[(0,.dat .str),(1,.dat tInt),(4,.keep),(5,.dat (.int .u8)),(7,.dat tInt)]⟩
def Te:Par:=⟨j8.tab,aF [(277,xG),(279,zJ),(280,tn),(281,oW),(282,LV),(283,SI),(278,qT)],λ_=>look [],λ_=>look [(6,Id),(17,EX)]⟩
def Tf:KT:=bB j8.tab [.cell 4 288] [bc]
def uU (f g:Nat)(p:List Nat):Sg→KT→Option AV:=xc (bu fi0 hs0 f 0) Te g f (sub (f227.body.getD .skip) p)
def uS (f n:Nat):aH AV:=λs j g=>aT 0 Id (uU f 0 [1,1,0,0,1,1,1,0,0,1,0,0]) (am 1 (be 0 none (uU f 0 [1,1,0,0,1,1,1,0,1]) (am 0 (be 0 none (uU f 0 [1,1,1]) Tf)))) n ⟨mkE 120 [(0,.val .str s),(1,.val tInt j),(4,.box 0 0),(6,.val tInt g)],mkH 1 [(0,.box [.val tInt (0:Int),.val tInt (0:Int),.val tInt (0:Int),.val tInt (0:Int)])]⟩
def qW (f n:Nat):aH AV:=λs g j=>aT 0 EX (uU f 0 [1,1,0,0,1,1,1,1,1,0,1,0,0,0]) (am 4 (be 0 none (uU f 0 [1,1,0,0,1,1,1,1,1,0,1,1]) (am 0 (be 0 none (uU f 0 [1,1,1]) Tf)))) n ⟨mkE 120 [(0,.val .str s),(1,.val tInt g),(4,.box 0 0),(5,.val (.int .u8) (ixs s g)),(7,.val tInt j)],mkH 1 [(0,.box [.val tInt (0:Int),.val tInt (0:Int),.val tInt (0:Int),.val tInt (0:Int)])]⟩
def Vz (f g:Nat):uS f (g+1)=sX true (sm fF) (uS f g):=Φ
def Q0 (f g:Nat):qW f (g+1)=pq true (sm fF) (qW f g):=Φ
def VB:∀n,uS FU n=mp3 fF (uT n):=cM Φ λf _ h=>(Vz FU f).trans (by rw[h];funext _ _ _;simp only[sX,ss])
def Q1:∀n,qW FU n=mp3 fF (qX n):=cM Φ λf _ h=>(Q0 FU f).trans (by rw[h];funext _ _ _;simp only[pq,ss])
def adc:aj prog 227 (Td):=evX func227 (S:=Te) cJ (af ⟨Gz,O2,E8,xU,Xq,aca,Eo,anO⟩) (tys:=[bc]) (λf x=>CI true (sm fF) (uS f f) (qW f f) x.1 x.2.1) (λx=>by show _=Option.map fF _;rw[VB FU,Q1 FU];simp only[CI,sY,ss])
def tw (m:Bool)(K:sx.den→Option C)(j:aH C)(g:aH C):aH C:=λs l f=>let a:=bd f s.length;cond (f<il s) (ck a (ce m .bool true (qk (ixs s f)) (λr1=>cond r1 (fz m tInt (w64 (f+1)) (λp=>j s l p)) (ck a (cond (ixs s f=35) (g s l f) (K (w64 (f-l),(-1:Int),()))))))) (K (w64 (f-l),(-1:Int),()))
def tv (m:Bool)(K:sx.den→Option C)(g:aH C)(j:aH C):aH C:=λs p f=>let a:=bd f s.length;nm m 2 (f<il s) a (nq m [2,1] (f<il s) (cond (cond (f<il s) (!ixs s f=10) false) (ck a (cl m .bool (fa (ixs s f)) (λr=>cond (!r) (K (w64 (f-p),f,())) (fz m tInt (w64 (f+1)) (λl=>g s p l))))) (j s p f)))
def CL (m:Bool)(K:sx.den→Option C)(f:aH C)(s:Str)(g:Int):Option C:=f s g g
def pF (g:aH sx.den):Nat→aH sx.den:=lp (λ_ _ _=>none) λf=>tv false some f g
def pG:Nat→aH sx.den:=lp (λ_ _ _=>none) λf=>tw false some f (pF f FU)
def tA (s:Str)(f:Int):Option sx.den:=CL false some (pG FU) s f
def nH (r:sx.den):AV :=.tup (bh [.val tInt r.1,.val tInt r.2.1])
def Tl:Ent:=evE (.cons .str (.cons tInt .unit)) nH (zero sx) λx=>tA x.1 x.2.1
def pE:MS:=⟨0,[],[(0,.dat .str),(1,.dat tInt),(6,.dat tInt)]⟩
def Tm:Par:=⟨j8.tab,aF [(276,se),(277,xG)],λ_=>look [],λ_=>look [(2,pE),(7,pE)]⟩
def Tn:KT:=bB j8.tab [.tmp 4,.tmp 5] [tInt,tInt]
def y9 (f g:Nat)(p:List Nat):Sg→KT→Option AV:=xc (bu fi0 hs0 f 0) Tm g f (sub (f226.body.getD .skip) p)
def kO (f n:Nat):aH AV:=λs j g=>aT 0 pE (y9 f 0 [1,1,0,0,0]) (am 0 (be 0 none (y9 f 0 [1,1,1]) Tn)) n ⟨mkE 51 [(0,.val .str s),(1,.val tInt j),(6,.val tInt g)],mkH 0 []⟩
def uZ (f l n:Nat):aH AV:=λs j g=>aT 0 pE (y9 f 0 [1,1,0,0,0,1,0,0,1,1,1,0,0,0]) (am 3 (am 2 (am 1 (kLp 0 pE (y9 f 0 [1,1,0,0,0]) (am 0 (be 0 none (y9 f 0 [1,1,1]) Tn)) l)))) n ⟨mkE 51 [(0,.val .str s),(1,.val tInt j),(6,.val tInt g)],mkH 0 []⟩
def VV (f g:Nat):kO f (g+1)=tw true (sm nH) (kO f g) (uZ f g f):=Φ
def VT (f g j:Nat):uZ f g (j+1)=tv true (sm nH) (uZ f g j) (kO f g):=Φ
def VU (j:Nat){f:aH sx.den}(g:kO FU j=mp3 nH f):∀n,uZ FU j n=mp3 nH (pF f n):=cM Φ λl _ h=>(VT FU j l).trans (by rw[h,g];funext _ _ _;simp only[tv,ss])
def VW:∀n,kO FU n=mp3 nH (pG n):=cM Φ λf _ h=>(VV FU f).trans (by rw[h,VU f h FU];funext _ _ _;simp only[tw,ss])
def adm:aj prog 226 (Tl):=evX func226 (S:=Tm) cJ (af ⟨Dh,Gz,anO⟩) (tys:=[tInt,tInt]) (λf x=>CL true (sm nH) (kO f f) x.1 x.2.1) (λx=>by show _=Option.map nH _;rw[VW FU];simp only[CL,tA,ss])
def zi (m:Bool)(K:Bool→Option C)(f:aG C):bf C:=λg=>cond g (K true) f
def zh (m:Bool)(K:Bool→Option C):aG C:=(K false)
def CO (m:Bool)(K:Bool→Option C)(g:bf C)(s:Str):Option C:=cond (s=[43]) (fz m .bool (decide (s=[43])) (λf=>g f)) (cond (s=[45]) (fz m .bool (decide (s=[45])) (λf=>g f)) (cond (s=[42]) (fz m .bool (decide (s=[42])) (λf=>g f)) (cond (s=[60]) (fz m .bool (decide (s=[60])) (λf=>g f)) (fz m .bool (decide (s=[61,61])) (λf=>g f)))))
def u4:aG Bool:=zh false some
def u5:bf Bool:=zi false some u4
def tC (s:Str):Option Bool:=CO false some u5 s
def Tr:Ent:=evE (.cons .str .unit) ac (zero .bool) λx=>tC x.1
def Ts:Par:=⟨j8.tab,aF [],λ_=>look [(7,sL),(8,bZ)],λ_=>look []⟩
def KO (f g:Nat)(p:List Nat):Sg→KT→Option AV:=xc (bu fi0 hs0 f 0) Ts g f (sub (f286.body.getD .skip) p)
def AL (f:Nat):bf AV:=λg=>KO f 0 [1,0,1,0,1] ⟨mkE 10 [(4,.val .bool g)],mkH 0 []⟩ (am 0 (be 0 (some bZ) (KO f 0 [1,1]) yZ))
def AK (f:Nat):aG AV:=KO f 0 [1,1] ⟨mkE 10 [],mkH 0 []⟩ yZ
def V5 (f:Nat):AL f=zi true (sm ac) (AK f):=Φ
def V3 (f:Nat):AK f=zh true (sm ac):=Φ
def V4:AK FU=mp0 ac (u4):=(V3 FU).trans (by simp only[zh,u4,ss])
def V6:AL FU=mp1 ac (u5):=(V5 FU).trans (by rw[V4];funext _;simp only[zi,u5,ss])
def adu:aj prog 286 (Tr):=evX func286 (S:=Ts) cJ (af trivial) (tys:=[.bool]) (λf x=>CO true (sm ac) (AL f) x.1) (λx=>by show _=Option.map ac _;rw[V6];simp only[CO,tC,ss])
def KC (m:Bool)(K:Int→Option C)(x:Int)(f:Int):Option C:=cond (f<1) (K 0) (ck (!f=0) (ck (!f=0) (K (Int.tmod (w64 (Int.tmod x f+f)) f))))
def mod2_ev (x:Int)(f:Int):Option Int:=KC false some x f
def xh:Ent:=evE (.cons tInt (.cons tInt .unit)) av (zero tInt) λx=>mod2_ev x.1 x.2.1
def agh:Par:=⟨j8.tab,aF [],λ_=>look [],λ_=>look []⟩
def mod2_x:aj prog 18 (xh):=evX func18 (S:=agh) cJ (af trivial) (tys:=[tInt]) (λf x=>KC true (sm av) x.1 x.2.1) (λx=>by show _=Option.map av _;simp only[KC,mod2_ev,ss])
def zQ (m:Bool)(K:Int→Option C)(text:Str):Option C:=let c:=qk (ixs text 0);let b:=bd 0 text.length;let a:Bool:=!cond (text=[]) true c;nm m 1 (!text=[]) b (nq m [2,0] (!text=[]) (nm m 1 a b (nq m [2,0] a (cond (cond (cond (text=[]) true c) true (ixs text 0=35)) (K 0) (cl m bc (sY text 0) (λr1=>nq m [2,2,3,0] (!!r1.2.2.1=0) (cond (cond (!r1.2.2.1=0) true (!r1.1=il text)) (K 0) (K r1.2.1))))))))
def kV (text:Str):Option Int:=zQ false some text
def Gi:Ent:=evE (.cons .str .unit) av (zero tInt) λx=>kV x.1
def aaT:Par:=⟨j8.tab,aF [(276,se),(227,Td)],λ_=>look [],λ_=>look []⟩
def Pd:aj prog 235 (Gi):=evX func235 (S:=aaT) cJ (af ⟨Dh,adc,anO⟩) (tys:=[tInt]) (λf x=>zQ true (sm av) x.1) (λx=>by show _=Option.map av _;simp only[zQ,kV,ss])
abbrev eK (C:Type):=Str→Bool→Int→Option C
abbrev xV (C:Type):=Str→Int→Bool→Option C
def lu (m:Bool)(K:Bool→Option C)(g:eK C):xV C:=λs i f=>fz m tInt (w64 (i+1)) λj=>g s f j
def je (m:Bool)(K:Bool→Option C)(g:eK C):xV C:=λs i f=>ck (bd i s.length) (cond (ixs s i=10) (lu m K g s i false) (lu m K g s i f))
def ll (m:Bool)(K:Bool→Option C)(g:eK C):eK C:=λs f i=>cond (i<il s) (ck (bd i s.length) (cond (ixs s i=35) (je m K g s i true) (je m K g s i f))) (K (!f))
def ur (m:Bool)(K:Bool→Option C)(f:eK C)(s:Str)(g:Bool):Option C:=cl m sx (tA s 0) λr1=>nq m [2,3,0] (!r1.2.1≥0) (cond (cond (r1.2.1≥0) true (r1.1<il s)) (K false) (cond g (K true) (f s false 0)))
def ng:Nat→eK Bool:=lp (λ_ _ _=>none) λf=>ll false some f
def iE (s:Str)(f:Bool):Option Bool:=ur false some (ng FU) s f
def HA:Ent:=evE (.cons .str (.cons .bool .unit)) ac (zero .bool) λx=>iE x.1 x.2.1
def na:MS:=⟨0,[],[(0,.dat .str),(7,.dat .bool),(8,.dat tInt)]⟩
def HB:Par:=⟨j8.tab,aF [(226,Tl)],λ_=>look [(12,na),(9,na)],λ_=>look [(8,na)]⟩
def UC:KT:=bB j8.tab [.tmp 4] [.bool]
def HC (f g:Nat)(p:List Nat):Sg→KT→Option AV:=xc (bu fi0 hs0 f 0) HB g f (sub (f237.body.getD .skip) p)
def nc (g n:Nat):eK AV:=λs f i=>aT 0 na (HC g 0 [1,1,1,1,1,0,1,0,0]) (am 0 (be 0 none (HC g 0 [1,1,1,1,1,1]) UC)) n ⟨mkE 39 [(0,.val .str s),(7,.val .bool f),(8,.val tInt i)],mkH 0 []⟩
def Mi (f g:Nat):nc f (g+1)=ll true (sm ac) (nc f g):=Φ
def Mj:∀n,nc FU n=mp3 ac (ng n):=cM Φ λf _ h=>(Mi FU f).trans (by rw[h];funext _ _ _;simp only[ll,je,lu,ss])
def UB:aj prog 237 (HA):=evX func237 (S:=HB) cJ (af ⟨adm,anO⟩) (tys:=[.bool]) (λf x=>ur true (sm ac) (nc f f) x.1 x.2.1) (λx=>by show _=Option.map ac _;rw[Mj FU];simp only[ur,iE,je,lu,ss])
abbrev vX (C:Type):=Str→Int→Int→Bool→Option C
abbrev Dv (C:Type):=Str→Option C
def oh (m:Bool)(K:Bool→Option C):Dv C:=λs=>K (decide (s=[]))
def dP (m:Bool)(K:Bool→Option C):vX C:=λs r1 f g=>cond g (K (decide (r1=1))) (cond (f=9) (nq m [2,0] (!r1=2) (K (cond (r1=2) true (decide (r1=4))))) (cond (f=16) (nq m [2,0] (!r1=1) (K (cond (r1=1) true (decide (r1=3))))) (cond (f=10) (K (decide (r1=5))) (cond (f=11) (K (decide (r1=6))) (cond (f=21) (cl m .bool (tC s) (λj=>K j)) (oh m K s))))))
def j6 (m:Bool)(K:Bool→Option C):vX C:=λs r1 f j=>cond j (K (decide (r1=2))) (cond (f=2) (fz m .bool (decide (f=2)) (λg=>dP m K s r1 f g)) (cond (f=4) (fz m .bool (decide (f=4)) (λg=>dP m K s r1 f g)) (cond (f=12) (fz m .bool (decide (f=12)) (λg=>dP m K s r1 f g)) (fz m .bool (decide (f=20)) (λg=>dP m K s r1 f g)))))
def nh (m:Bool)(K:Bool→Option C)(f:Int)(s:Str):Option C:=cl m tInt (kV s) λr1=>cond (f=1) (fz m .bool (decide (f=1)) (λg=>j6 m K s r1 f g)) (fz m .bool (decide (f=3)) (λg=>j6 m K s r1 f g))
def gS (f:Int)(s:Str):Option Bool:=nh false some f s
def Bv:Ent:=evE (.cons tInt (.cons .str .unit)) ac (zero .bool) λx=>gS x.1 x.2.1
def GM:MS:=⟨0,[],[(1,.dat .str),(5,.dat tInt),(8,.dat tInt),(9,.dat .bool)]⟩
def Dx:MS:=⟨0,[],[(1,.dat .str),(5,.dat tInt),(8,.dat tInt),(14,.dat .bool)]⟩
def Dw:MS:=⟨0,[],[(1,.dat .str)]⟩
def Mn:Par:=⟨j8.tab,aF [(235,Gi),(286,Tr)],λ_=>look [(5,GM),(10,Dx),(21,Dw)],λ_=>look []⟩
def Mm:aj prog 273 (Bv):=evX func273 (S:=Mn) cJ (af ⟨Pd,adu,anO⟩) (tys:=[.bool]) (λf x=>nh true (sm ac) x.1 x.2.1) (λx=>by show _=Option.map ac _;simp only[nh,gS,dP,oh,j6,ss])
end
abbrev aO:Ty:=.cons tInt (.cons .bool (.cons .str (.cons tInt .unit)))
abbrev aa:Ty:=(.cons tInt (.cons tInt (.cons aO .unit)))
abbrev Υ:=List aa.den
abbrev tCommit:Ty:=.cons tInt (.cons (.slice tInt) (.cons (.slice tInt) (.cons .str (.cons (.slice aa) .unit))))
abbrev Λ:=List tCommit.den
abbrev aP:Ty:=(.cons (.slice aa) .unit)
def fce (i:Nat)(f n:Int)(s:List Nat)(r:Nat):aa.den:=(Int.ofNat (Nat.add 1048576 i),f,(n,false,s.map UInt8.ofNat,(match r with|0=>0|r+1=>Int.ofNat (Nat.add 1048577 r)),()),())
def fst0:tCommit.den:=(1048594,[],[],[102,105,114,115,116],[fce 1 1 1 [] 0,fce 1 2 1 [] 0,fce 1 3 0 [77] 0,fce 1 9 0 [32] 0,fce 1 10 0 [10] 0,fce 2 1 2 [] 0,fce 2 2 0 [105,114] 1,fce 2 3 0 [102] 0,fce 2 8 0 [10] 0,fce 2 9 0 [32] 0,fce 2 13 0 [32] 0,fce 3 1 4 [] 0,fce 3 2 0 [105,114] 2,fce 3 3 0 [120] 0,fce 4 1 5 [] 0,fce 4 2 1 [] 3,fce 4 4 5 [] 0,fce 4 8 0 [32] 0,fce 5 1 4 [] 0,fce 5 2 0 [114,105] 2,fce 5 3 0 [121] 0,fce 5 8 0 [32] 0,fce 6 1 5 [] 0,fce 6 2 1 [] 5,fce 6 4 5 [] 0,fce 6 8 0 [32] 0,fce 7 1 5 [] 0,fce 7 2 1 [] 2,fce 7 4 5 [] 0,fce 7 8 0 [32] 0,fce 8 1 5 [] 0,fce 8 2 2 [] 2,fce 8 4 21 [43] 0,fce 8 8 0 [32] 0,fce 9 1 5 [] 0,fce 9 2 1 [] 8,fce 9 4 12 [] 3,fce 9 8 0 [32] 0,fce 10 1 5 [] 0,fce 10 2 2 [] 8,fce 10 4 12 [] 5,fce 10 8 0 [32] 0,fce 11 1 2 [] 0,fce 11 2 0 [114,105] 1,fce 11 3 0 [103] 0,fce 11 8 0 [10] 0,fce 11 9 0 [32] 0,fce 11 13 0 [32] 0,fce 12 1 5 [] 0,fce 12 2 1 [] 11,fce 12 4 5 [] 0,fce 12 8 0 [32] 0,fce 13 1 5 [] 0,fce 13 2 2 [] 11,fce 13 4 16 [] 2,fce 13 8 0 [32] 0,fce 14 1 5 [] 0,fce 14 2 0 [105,114] 13,fce 14 4 17 [] 3,fce 15 1 5 [] 0,fce 15 2 1 [] 14,fce 15 4 10 [49] 0,fce 16 1 5 [] 0,fce 16 2 0 [114,105] 13,fce 16 4 17 [] 5,fce 17 1 5 [] 0,fce 17 2 1 [] 16,fce 17 4 10 [50] 0,fce 17 8 0 [32] 0],())
def fst1:tCommit.den:=(1048589,[],[],[102,105,114,115,116],[fce 1 1 1 [] 0,fce 1 2 1 [] 0,fce 1 3 0 [77] 0,fce 1 9 0 [32] 0,fce 1 10 0 [32,35,32,99,10] 0,fce 2 1 2 [] 0,fce 2 2 0 [110,98] 1,fce 2 3 0 [102] 0,fce 2 8 0 [10] 0,fce 2 9 0 [32] 0,fce 2 13 0 [32] 0,fce 3 1 4 [] 0,fce 3 2 0 [110,98] 2,fce 3 3 0 [120] 0,fce 4 1 5 [] 0,fce 4 2 1 [] 3,fce 4 4 5 [] 0,fce 4 8 0 [32] 0,fce 5 1 5 [] 0,fce 5 2 1 [] 2,fce 5 4 5 [] 0,fce 5 8 0 [32] 0,fce 6 1 5 [] 0,fce 6 2 2 [] 2,fce 6 4 12 [] 3,fce 6 8 0 [32] 0,fce 7 1 1 [] 0,fce 7 2 1 [] 0,fce 7 3 0 [78] 0,fce 7 9 0 [32] 0,fce 7 10 0 [10] 0,fce 8 1 2 [] 0,fce 8 2 0 [110,98] 7,fce 8 3 0 [107] 0,fce 8 8 0 [10] 0,fce 8 9 0 [32] 0,fce 8 13 0 [32] 0,fce 9 1 5 [] 0,fce 9 2 1 [] 8,fce 9 4 5 [] 0,fce 9 8 0 [32] 0,fce 10 1 5 [] 0,fce 10 2 2 [] 8,fce 10 4 16 [] 2,fce 10 8 0 [32] 0,fce 11 1 5 [] 0,fce 11 2 0 [110,98] 10,fce 11 4 17 [] 3,fce 12 1 5 [] 0,fce 12 2 1 [] 11,fce 12 4 10 [55] 0],())
def fst2:tCommit.den:=(1048588,[],[],[102,105,114,115,116],[fce 1 1 1 [] 0,fce 1 2 1 [] 0,fce 1 3 0 [77] 0,fce 1 9 0 [32] 0,fce 2 1 3 [] 0,fce 2 2 0 [105,114] 1,fce 2 3 0 [84] 0,fce 2 8 0 [32] 0,fce 2 9 0 [32] 0,fce 2 10 0 [32] 0,fce 3 1 5 [] 0,fce 3 2 1 [] 2,fce 3 4 8 [] 0,fce 3 8 0 [32] 0,fce 4 1 5 [] 0,fce 4 2 1 [] 3,fce 4 4 5 [] 0,fce 5 1 2 [] 0,fce 5 2 0 [114,105] 1,fce 5 3 0 [104] 0,fce 5 8 0 [32] 0,fce 5 9 0 [32] 0,fce 5 13 0 [32] 0,fce 6 1 4 [] 0,fce 6 2 0 [110,98] 5,fce 6 3 0 [97] 0,fce 7 1 5 [] 0,fce 7 2 1 [] 6,fce 7 4 9 [] 2,fce 7 8 0 [32] 0,fce 8 1 5 [] 0,fce 8 2 1 [] 5,fce 8 4 9 [] 2,fce 8 8 0 [32] 0,fce 9 1 5 [] 0,fce 9 2 2 [] 5,fce 9 4 18 [] 0,fce 9 8 0 [32] 0,fce 10 1 5 [] 0,fce 10 2 0 [105,114] 9,fce 10 4 10 [49] 0,fce 11 1 5 [] 0,fce 11 2 0 [114,105] 9,fce 11 4 10 [50] 0,fce 11 8 0 [32] 0],())
def fst3:tCommit.den:=(1048588,[],[],[102,105,114,115,116],[fce 1 1 1 [] 0,fce 1 2 1 [] 0,fce 1 3 0 [77] 0,fce 1 9 0 [32] 0,fce 1 10 0 [10] 0,fce 2 1 2 [] 0,fce 2 2 0 [110,98] 1,fce 2 3 0 [102] 0,fce 2 8 0 [10] 0,fce 2 9 0 [32] 0,fce 2 13 0 [32] 0,fce 3 1 4 [] 0,fce 3 2 0 [110,98] 2,fce 3 3 0 [98] 0,fce 4 1 5 [] 0,fce 4 2 1 [] 3,fce 4 4 7 [] 0,fce 4 8 0 [32] 0,fce 5 1 5 [] 0,fce 5 2 1 [] 2,fce 5 4 5 [] 0,fce 5 8 0 [32] 0,fce 6 1 5 [] 0,fce 6 2 2 [] 2,fce 6 4 19 [] 0,fce 6 8 0 [32] 0,fce 6 9 0 [32] 0,fce 6 10 0 [32] 0,fce 7 1 5 [] 0,fce 7 2 1 [] 6,fce 7 4 12 [] 3,fce 7 8 0 [32] 0,fce 8 1 5 [] 0,fce 8 2 2 [] 6,fce 8 4 10 [49] 0,fce 8 8 0 [32] 0,fce 9 1 5 [] 0,fce 9 2 3 [] 6,fce 9 4 20 [97] 0,fce 9 8 0 [32] 0,fce 9 9 0 [32] 0,fce 9 10 0 [32] 0,fce 9 11 0 [32] 0,fce 10 1 5 [] 0,fce 10 2 1 [] 9,fce 10 4 10 [50] 0,fce 10 8 0 [32] 0,fce 11 1 5 [] 0,fce 11 2 2 [] 9,fce 11 4 12 [] 9,fce 11 8 0 [32] 0],())
def fst4:tCommit.den:=(1048578,[],[],[102,105,114,115,116],[fce 1 1 1 [] 0,fce 1 2 1 [] 0,fce 1 3 0 [77] 0,fce 1 9 0 [32] 0,fce 1 10 0 [10] 0],())
def fst5:tCommit.den:=(1048585,[],[],[102,105,114,115,116],[fce 1 1 1 [] 0,fce 1 2 1 [] 0,fce 1 3 0 [77] 0,fce 1 9 0 [32] 0,fce 1 10 0 [10] 0,fce 2 1 2 [] 0,fce 2 2 0 [105,114] 1,fce 2 3 0 [102] 0,fce 2 8 0 [10] 0,fce 2 9 0 [32] 0,fce 2 13 0 [32] 0,fce 3 1 5 [] 0,fce 3 2 1 [] 2,fce 3 4 6 [] 0,fce 3 8 0 [32] 0,fce 4 1 5 [] 0,fce 4 2 2 [] 2,fce 4 4 11 [34,97,34] 0,fce 4 8 0 [32] 0,fce 5 1 2 [] 0,fce 5 2 0 [114,105] 1,fce 5 3 0 [103] 0,fce 5 8 0 [10] 0,fce 5 9 0 [32] 0,fce 5 13 0 [32] 0,fce 6 1 5 [] 0,fce 6 2 1 [] 5,fce 6 4 6 [] 0,fce 6 8 0 [32] 0,fce 7 1 5 [] 0,fce 7 2 2 [] 5,fce 7 4 22 [] 0,fce 7 8 0 [32] 0,fce 8 1 5 [] 0,fce 8 2 1 [] 7,fce 8 4 16 [] 2],())
def fst6:tCommit.den:=(1048602,[],[],[102,105,114,115,116],[fce 1 1 1 [] 0,fce 1 2 1 [] 0,fce 1 3 0 [77] 0,fce 1 9 0 [32] 0,fce 2 1 2 [] 0,fce 2 2 0 [105,114] 1,fce 2 3 0 [102] 0,fce 2 8 0 [32] 0,fce 2 9 0 [32] 0,fce 2 13 0 [32] 0,fce 3 1 4 [] 0,fce 3 2 0 [110,98] 2,fce 3 3 0 [120] 0,fce 4 1 5 [] 0,fce 4 2 1 [] 3,fce 4 4 5 [] 0,fce 4 8 0 [32] 0,fce 5 1 5 [] 0,fce 5 2 1 [] 2,fce 5 4 5 [] 0,fce 5 8 0 [32] 0,fce 6 1 5 [] 0,fce 6 2 2 [] 2,fce 6 4 21 [42] 0,fce 6 8 0 [32] 0,fce 7 1 5 [] 0,fce 7 2 1 [] 6,fce 7 4 16 [] 2,fce 7 8 0 [32] 0,fce 8 1 5 [] 0,fce 8 2 0 [110,98] 7,fce 8 4 17 [] 3,fce 9 1 5 [] 0,fce 9 2 1 [] 8,fce 9 4 12 [] 3,fce 10 1 5 [] 0,fce 10 2 2 [] 6,fce 10 4 10 [50] 0,fce 10 8 0 [32] 0,fce 11 1 2 [] 0,fce 11 2 0 [114,105] 1,fce 11 3 0 [103] 0,fce 11 8 0 [32] 0,fce 11 9 0 [32] 0,fce 11 13 0 [32] 0,fce 12 1 4 [] 0,fce 12 2 0 [105,114] 11,fce 12 3 0 [120] 0,fce 13 1 5 [] 0,fce 13 2 1 [] 12,fce 13 4 5 [] 0,fce 13 8 0 [32] 0,fce 14 1 4 [] 0,fce 14 2 0 [114,105] 11,fce 14 3 0 [121] 0,fce 14 8 0 [32] 0,fce 15 1 5 [] 0,fce 15 2 1 [] 14,fce 15 4 5 [] 0,fce 15 8 0 [32] 0,fce 16 1 5 [] 0,fce 16 2 1 [] 11,fce 16 4 7 [] 0,fce 16 8 0 [32] 0,fce 17 1 5 [] 0,fce 17 2 2 [] 11,fce 17 4 21 [60] 0,fce 17 8 0 [32] 0,fce 18 1 5 [] 0,fce 18 2 1 [] 17,fce 18 4 16 [] 2,fce 18 8 0 [32] 0,fce 19 1 5 [] 0,fce 19 2 0 [110,98] 18,fce 19 4 17 [] 3,fce 20 1 5 [] 0,fce 20 2 1 [] 19,fce 20 4 12 [] 12,fce 21 1 5 [] 0,fce 21 2 2 [] 17,fce 21 4 16 [] 2,fce 21 8 0 [32] 0,fce 22 1 5 [] 0,fce 22 2 0 [110,98] 21,fce 22 4 17 [] 3,fce 23 1 5 [] 0,fce 23 2 1 [] 22,fce 23 4 16 [] 2,fce 24 1 5 [] 0,fce 24 2 0 [110,98] 23,fce 24 4 17 [] 3,fce 25 1 5 [] 0,fce 25 2 1 [] 24,fce 25 4 12 [] 14],())
def fst7:tCommit.den:=(1048589,[],[],[102,105,114,115,116],[fce 1 1 1 [] 0,fce 1 2 1 [] 0,fce 1 3 0 [77] 0,fce 1 9 0 [32] 0,fce 1 10 0 [10] 0,fce 2 1 2 [] 0,fce 2 2 0 [110,98] 1,fce 2 3 0 [102] 0,fce 2 8 0 [10] 0,fce 2 9 0 [32] 0,fce 2 13 0 [32] 0,fce 3 1 4 [] 0,fce 3 2 0 [110,98] 2,fce 3 3 0 [120] 0,fce 4 1 5 [] 0,fce 4 2 1 [] 3,fce 4 4 5 [] 0,fce 4 8 0 [32] 0,fce 5 1 5 [] 0,fce 5 2 1 [] 2,fce 5 4 5 [] 0,fce 5 8 0 [32] 0,fce 6 1 5 [] 0,fce 6 2 2 [] 2,fce 6 4 16 [103] 0,fce 6 8 0 [32] 0,fce 7 1 5 [] 0,fce 7 2 0 [110,98] 6,fce 7 4 17 [] 0,fce 8 1 5 [] 0,fce 8 2 1 [] 7,fce 8 4 12 [] 3,fce 9 1 1 [] 0,fce 9 2 1 [] 0,fce 9 3 0 [78] 0,fce 9 9 0 [32] 0,fce 9 10 0 [10] 0,fce 10 1 2 [] 0,fce 10 2 0 [110,98] 9,fce 10 3 0 [102] 0,fce 10 8 0 [10] 0,fce 10 9 0 [32] 0,fce 10 13 0 [32] 0,fce 11 1 5 [] 0,fce 11 2 1 [] 10,fce 11 4 5 [] 0,fce 11 8 0 [32] 0,fce 12 1 5 [] 0,fce 12 2 2 [] 10,fce 12 4 15 [] 0,fce 12 8 0 [32] 0],())
def fstL:Int→tCommit.den
 |0=>fst0
 |1=>fst1
 |2=>fst2
 |3=>fst3
 |4=>fst4
 |5=>fst5
 |6=>fst6
 |_=>fst7
def firstF (x:Int):tCommit.den:=fstL ((mod2_ev x 8).getD 0)
section
def Ox:Ent:=sp1 tInt (λ_=>true) λf=>.val tCommit (firstF f)
end
