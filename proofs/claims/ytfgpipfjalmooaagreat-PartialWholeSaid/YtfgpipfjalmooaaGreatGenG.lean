/- The equations of the program's functions. -/
import Derived.Test.YtfgpipfjalmooaaGreatAbs1
import Derived.Test.YtfgpipfjalmooaaGreatChecked
open Option renaming some→ä,none→ö
open Bool renaming true→ü,false→ß
set_option linter.all false
noncomputable section
namespace Go.Proofs.YtfgpipfjalmooaaGreat
namespace Abs
abbrev tInt:Ty :=.int .i64
abbrev be:Ty:=.cons tInt (.cons tInt (.cons tInt (.cons tInt .unit)))
abbrev La':=List be.den
abbrev sS:Ty:=(.cons tInt (.cons tInt .unit))
open Go Tryz
section
def kh:TabL:={
 ty:=[(3,tInt),(4,.bool),(5,(.int .u8)),(9,.str),(45,tInt),(288,be)],
 cells:=[(3,1),(4,1),(5,1),(9,1),(45,1),(288,4)],
 si:=[((288,0),0),((288,1),1),((288,2),2),((288,3),3)],
 one:=[],
 elem:=[] }
def cL:TabOk prog kh.tab:=TabL.ok Φ
def follows:prog.follows .mixedOrders=true:=Φ
def fi0:FuncId→Option Fi:=λ_=>ö
def abU:∀f x,fi0 f=ä x→FiOk prog f x:=λ_ _ h=>by cases h
variable{f:FuncId}{fn:Func}{S:Par}{C:Type}
def evX {R:Type}(P:prog.funcs[f]? = ä fn)(C:TabOk prog S.tab)(r:SpecsOk prog S.T){a:Ty}{tys:List Ty}{o:R→AV}{z:R}{g:a.den→Option R}(T:Nat→a.den→Option AV)(p:∀y,T FU y=Option.map o (g y))(J:vt fn=true:=by kernel_rfl)(l:∀j y,mT fi0 hs0 0 (jU fn S) tys j (VX a y)=T j y:=by intro _ _;kernel_rfl):aj prog f (evE a o z g):=ajf follows abU d7 P C r T p J l
def nwX (U:prog.funcs[f]? = ä fn)(P:TabOk prog S.tab)(J:SpecsOk prog S.T){l a:Ty}{e:TypeId}{g:a.den→Option (List l.den)}(T:Nat→a.den→Option AV)(C:∀y,T FU y=Option.map (λr=>.val (.slice l) r) (g y))(R:vt fn=true:=by kernel_rfl)(p:∀j y,aab fi0 hs0 0 (jU fn S) l e j (VX a y)=T j y:=by intro _ _;kernel_rfl):TN prog f (nwE l a e g):=ai7 follows abU d7 U P J T C R p
def jK (c:Bool)(t:Ty)(x y:t.den):cond c (ä (AV.val t x)) (ä (AV.val t y))=ä (AV.val t (cond c x y)):=by cases c <;> rfl
def nR (c:Int):Bool:=cond (c≥97) (decide (c≤122)) ß
def FZ:List (Nat×Ent):=[]
def aaX:Par:=⟨kh.tab,az FZ,λ_=>look [],λ_=>look []⟩
def aaW:Code:=(f280.body).getD .skip
def O2:Fi:=⟨aaX,9,[.tmp 2],aaW⟩
def zB:KT:=bq kh.tab [.tmp 2] [.bool]
def xO (f:Nat)(c:Int):Option AV:=mT fi0 hs0 0 O2 [.bool] f [.val (.int .u8) c]
def SH (f:Nat)(c:Int):xO f c=cond (aL (decide (c≥97)) (decide (c≥97))&&ü&&ü) (cond (aL (decide (c≥97)) (decide (c≥97))&&ü) (ä (.val .bool (cond (c≥97) (decide (c≤122)) ß))) ö) none:=Φ
def Xz (f:Nat)(c:Int):xO f c=ä (.val .bool (cond (c≥97) (decide (c≤122)) ß)):=by simpa only[aI,cd,v?,h?,U',I_,B?,t?,m?,u?,Int.reduceLE,Int.reduceEq,Int.reduceLT,Z']using SH f c
def Xy:bD prog FZ→FiOk prog 280 (O2):=λh=>⟨⟨f280,func280,rfl,Φ,Φ,Φ⟩,cL,ag h⟩
def tL:Ent:=sp1 (.int .u8) (λ_=>ü) λf=>.val .bool (nR f)
def SI (l:bD prog FZ)(h:∀(f:Int),∃g,xO g f=ä (.val .bool (nR f))):aj prog 280 tL:=qS λf _=>(let ⟨_,j⟩:=h f;bi follows (λ_ _ h=>by cases h) d7 (Xy l) (ds:=[⟨_,f⟩]) j)
def FY:aj prog 280 tL:=SI trivial (λc=>⟨0,by rw[Xz];first|rfl|(simp only[jK];rfl)⟩)
def iS (c:Int):Bool:=cond (c≥65) (decide (c≤90)) ß
def Ea:List (Nat×Ent):=[]
def Zf:Par:=⟨kh.tab,az Ea,λ_=>look [],λ_=>look []⟩
def Ze:Code:=(f281.body).getD .skip
def M9:Fi:=⟨Zf,9,[.tmp 2],Ze⟩
def xq (f:Nat)(c:Int):Option AV:=mT fi0 hs0 0 M9 [.bool] f [.val (.int .u8) c]
def Q4 (f:Nat)(c:Int):xq f c=cond (aL (decide (c≥65)) (decide (c≥65))&&ü&&ü) (cond (aL (decide (c≥65)) (decide (c≥65))&&ü) (ä (.val .bool (cond (c≥65) (decide (c≤90)) ß))) ö) none:=Φ
def VZ (f:Nat)(c:Int):xq f c=ä (.val .bool (cond (c≥65) (decide (c≤90)) ß)):=by simpa only[aI,cd,v?,h?,U',I_,B?,t?,m?,u?,Int.reduceLE,Int.reduceEq,Int.reduceLT,Z']using Q4 f c
def VY:bD prog Ea→FiOk prog 281 (M9):=λh=>⟨⟨f281,func281,rfl,Φ,Φ,Φ⟩,cL,ag h⟩
def o7:Ent:=sp1 (.int .u8) (λ_=>ü) λf=>.val .bool (iS f)
def Q5 (l:bD prog Ea)(h:∀(f:Int),∃g,xq g f=ä (.val .bool (iS f))):aj prog 281 o7:=qS λf _=>(let ⟨_,j⟩:=h f;bi follows (λ_ _ h=>by cases h) d7 (VY l) (ds:=[⟨_,f⟩]) j)
def yu:aj prog 281 o7:=Q5 trivial (λc=>⟨0,by rw[VZ];first|rfl|(simp only[jK];rfl)⟩)
def vX (c:Int):Bool:=cond (c≥48) (decide (c≤57)) ß
def GP:List (Nat×Ent):=[]
def acd:Par:=⟨kh.tab,az GP,λ_=>look [],λ_=>look []⟩
def acb:Code:=(f279.body).getD .skip
def Qg:Fi:=⟨acd,9,[.tmp 2],acb⟩
def xV (f:Nat)(c:Int):Option AV:=mT fi0 hs0 0 Qg [.bool] f [.val (.int .u8) c]
def Ts (f:Nat)(c:Int):xV f c=cond (aL (decide (c≥48)) (decide (c≥48))&&ü&&ü) (cond (aL (decide (c≥48)) (decide (c≥48))&&ü) (ä (.val .bool (cond (c≥48) (decide (c≤57)) ß))) ö) none:=Φ
def Yi (f:Nat)(c:Int):xV f c=ä (.val .bool (cond (c≥48) (decide (c≤57)) ß)):=by simpa only[aI,cd,v?,h?,U',I_,B?,t?,m?,u?,Int.reduceLE,Int.reduceEq,Int.reduceLT,Z']using Ts f c
def Yh:bD prog GP→FiOk prog 279 (Qg):=λh=>⟨⟨f279,func279,rfl,Φ,Φ,Φ⟩,cL,ag h⟩
def Ac:Ent:=sp1 (.int .u8) (λ_=>ü) λf=>.val .bool (vX f)
def Tt (l:bD prog GP)(h:∀(f:Int),∃g,xV g f=ä (.val .bool (vX f))):aj prog 279 Ac:=qS λf _=>(let ⟨_,j⟩:=h f;bi follows (λ_ _ h=>by cases h) d7 (Yh l) (ds:=[⟨_,f⟩]) j)
def Qf:aj prog 279 Ac:=Tt trivial (λc=>⟨0,by rw[Yi];first|rfl|(simp only[jK];rfl)⟩)
def vN (m:Bool)(K:Bool→Option C)(c:Int):Option C:=ce m .bool ü (nR c) λr1=>let a:=cond r1 ü (iS c);nq m [2,0] (!r1) (nq m [2,0] (!cond r1 ü (iS c)) (nq m [2,0] (!cond a ü (vX c)) (K (cond (cond a ü (vX c)) ü (decide (c=95))))))
def iM (c:Int):Option Bool:=vN ß ä c
def ae (r:Bool):AV :=.val .bool r
def Jc:Ent:=evE (.cons (.int .u8) .unit) ae (zero .bool) λx=>iM x.1
def XZ:Par:=⟨kh.tab,az [(280,tL),(281,o7),(279,Ac)],λ_=>look [],λ_=>look []⟩
def XX:aj prog 367 (Jc):=evX func367 (S:=XZ) cL (ag ⟨FY,yu,Qf,apa⟩) (tys:=[.bool]) (λf x=>vN ü (sm ae) x.1) (λx=>by show _=Option.map ae _;simp only[vN,iM,ss])
def qE (c:Int):Bool:=cond (cond (cond (c=9) ü (c=10)) ü (c=13)) ü (decide (c=32))
def D0:List (Nat×Ent):=[]
def Y8:Par:=⟨kh.tab,az D0,λ_=>look [],λ_=>look []⟩
def Y7:Code:=(f276.body).getD .skip
def MW:Fi:=⟨Y8,17,[.tmp 2],Y7⟩
def xp (f:Nat)(c:Int):Option AV:=mT fi0 hs0 0 MW [.bool] f [.val (.int .u8) c]
def QW (f:Nat)(c:Int):xp f c=cond (aL (!c=9) (!c=9)&&ü&&ü) (cond (aL (!c=9) (!c=9)) (cond (aL (!cond (c=9) ü (c=10)) (!cond (c=9) ü (c=10))&&ü&&ü) (cond (aL (!cond (c=9) ü (c=10)) (!cond (c=9) ü (c=10))) (cond (aL (!cond (cond (c=9) ü (c=10)) ü (c=13)) (!cond (cond (c=9) ü (c=10)) ü (c=13))&&ü&&ü) (cond (aL (!cond (cond (c=9) ü (c=10)) ü (c=13)) (!cond (cond (c=9) ü (c=10)) ü (c=13))) (ä (.val .bool (cond (cond (cond (c=9) ü (c=10)) ü (c=13)) ü (decide (c=32))))) ö) ö) ö) ö) ö) none:=Φ
def VU (f:Nat)(c:Int):xp f c=ä (.val .bool (cond (cond (cond (c=9) ü (c=10)) ü (c=13)) ü (decide (c=32)))):=by simpa only[aI,cd,v?,h?,U',I_,B?,t?,m?,u?,Int.reduceLE,Int.reduceEq,Int.reduceLT,Z']using QW f c
def VT:bD prog D0→FiOk prog 276 (MW):=λh=>⟨⟨f276,func276,rfl,Φ,Φ,Φ⟩,cL,ag h⟩
def sI:Ent:=sp1 (.int .u8) (λ_=>ü) λf=>.val .bool (qE f)
def QX (l:bD prog D0)(h:∀(f:Int),∃g,xp g f=ä (.val .bool (qE f))):aj prog 276 sI:=qS λf _=>(let ⟨_,j⟩:=h f;bi follows (λ_ _ h=>by cases h) d7 (VT l) (ds:=[⟨_,f⟩]) j)
def DZ:aj prog 276 sI:=QX trivial (λc=>⟨0,by rw[VU];first|rfl|(simp only[jK];rfl)⟩)
def vr (c:Int):Bool:=cond (c≥32) (decide (c≤126)) ß
def xD:List (Nat×Ent):=[]
def R4:Par:=⟨kh.tab,az xD,λ_=>look [],λ_=>look []⟩
def R3:Code:=(f278.body).getD .skip
def Fa:Fi:=⟨R4,9,[.tmp 2],R3⟩
def rl (f:Nat)(c:Int):Option AV:=mT fi0 hs0 0 Fa [.bool] f [.val (.int .u8) c]
def K4 (f:Nat)(c:Int):rl f c=cond (aL (decide (c≥32)) (decide (c≥32))&&ü&&ü) (cond (aL (decide (c≥32)) (decide (c≥32))&&ü) (ä (.val .bool (cond (c≥32) (decide (c≤126)) ß))) ö) none:=Φ
def Ot (f:Nat)(c:Int):rl f c=ä (.val .bool (cond (c≥32) (decide (c≤126)) ß)):=by simpa only[aI,cd,v?,h?,U',I_,B?,t?,m?,u?,Int.reduceLE,Int.reduceEq,Int.reduceLT,Z']using K4 f c
def Oq:bD prog xD→FiOk prog 278 (Fa):=λh=>⟨⟨f278,func278,rfl,Φ,Φ,Φ⟩,cL,ag h⟩
def rm:Ent:=sp1 (.int .u8) (λ_=>ü) λf=>.val .bool (vr f)
def K5 (l:bD prog xD)(h:∀(f:Int),∃g,rl g f=ä (.val .bool (vr f))):aj prog 278 rm:=qS λf _=>(let ⟨_,j⟩:=h f;bi follows (λ_ _ h=>by cases h) d7 (Oq l) (ds:=[⟨_,f⟩]) j)
def E9:aj prog 278 rm:=K5 trivial (λc=>⟨0,by rw[Ot];first|rfl|(simp only[jK];rfl)⟩)
def sa (m:Bool)(K:Bool→Option C)(c:Int):Option C:=ce m .bool ü (qE c) λr1=>nq m [2,0] (!r1) (K (cond r1 ü (vr c)))
def e9 (c:Int):Option Bool:=sa ß ä c
def yb:Ent:=evE (.cons (.int .u8) .unit) ae (zero .bool) λx=>e9 x.1
def TJ:Par:=⟨kh.tab,az [(276,sI),(278,rm)],λ_=>look [],λ_=>look []⟩
def Hd:aj prog 277 (yb):=evX func277 (S:=TJ) cL (ag ⟨DZ,E9,apa⟩) (tys:=[.bool]) (λf x=>sa ü (sm ae) x.1) (λx=>by show _=Option.map ae _;simp only[sa,e9,ss])
abbrev bf (C:Type):=Bool→Option C
abbrev aE (C:Type):=Option C
def iW (m:Bool)(K:Bool→Option C)(f:aE C):bf C:=λg=>cond g (K ü) f
def iV (m:Bool)(K:Bool→Option C):aE C:=(K ß)
def nG (m:Bool)(K:Bool→Option C)(f:bf C)(s:Str):Option C:=cond (s=[109,111,100,117,108,101]) (fz m .bool (decide (s=[109,111,100,117,108,101])) (λg=>f g)) (cond (s=[100,101,102]) (fz m .bool (decide (s=[100,101,102])) (λg=>f g)) (cond (s=[116,121,112,101]) (fz m .bool (decide (s=[116,121,112,101])) (λg=>f g)) (cond (s=[108,101,116]) (fz m .bool (decide (s=[108,101,116])) (λg=>f g)) (cond (s=[105,110]) (fz m .bool (decide (s=[105,110])) (λg=>f g)) (cond (s=[105,102]) (fz m .bool (decide (s=[105,102])) (λg=>f g)) (cond (s=[116,104,101,110]) (fz m .bool (decide (s=[116,104,101,110])) (λg=>f g)) (cond (s=[101,108,115,101]) (fz m .bool (decide (s=[101,108,115,101])) (λg=>f g)) (cond (s=[116,114,117,101]) (fz m .bool (decide (s=[116,114,117,101])) (λg=>f g)) (cond (s=[102,97,108,115,101]) (fz m .bool (decide (s=[102,97,108,115,101])) (λg=>f g)) (cond (s=[73,110,116]) (fz m .bool (decide (s=[73,110,116])) (λg=>f g)) (cond (s=[84,101,120,116]) (fz m .bool (decide (s=[84,101,120,116])) (λg=>f g)) (fz m .bool (decide (s=[66,111,111,108])) (λg=>f g)))))))))))))
def gW:aE Bool:=iV ß ä
def gX:bf Bool:=iW ß ä gW
def cT (s:Str):Option Bool:=nG ß ä gX s
def Cd:Ent:=evE (.cons .str .unit) ae (zero .bool) λx=>cT x.1
def tl:MS:=⟨0,[],[(4,.bb .bool)]⟩
def bY:MS:=⟨0,[],[]⟩
def Ce:Par:=⟨kh.tab,az [],λ_=>look [(15,tl),(16,bY)],λ_=>look []⟩
def tm (f g:Nat)(p:List Nat):Sg→KT→Option AV:=xc (bo fi0 hs0 f 0) Ce g f (sub (f320.body.getD .skip) p)
def lT (f:Nat):bf AV:=λg=>tm f 0 [1,0,1,0,1] ⟨mkE 18 [(4,.val .bool g)],mkH 0 []⟩ (ak 0 (aW 0 (ä bY) (tm f 0 [1,1]) zB))
def lS (f:Nat):aE AV:=tm f 0 [1,1] ⟨mkE 18 [],mkH 0 []⟩ zB
def EV (f:Nat):lT f=iW ü (sm ae) (lS f):=Φ
def ET (f:Nat):lS f=iV ü (sm ae):=Φ
def EU:lS FU=mp0 ae (gW):=(ET FU).trans (by simp only[iV,gW,ss])
def EW:lT FU=mp1 ae (gX):=(EV FU).trans (by rw[EU];funext _;simp only[iW,gX,ss])
def N4:aj prog 320 (Cd):=evX func320 (S:=Ce) cL (ag trivial) (tys:=[.bool]) (λf x=>nG ü (sm ae) (lT f) x.1) (λx=>by show _=Option.map ae _;rw[EW];simp only[nG,cT,ss])
abbrev aF (C:Type):=Str→Int→Int→Option C
def abp (f:Int):Bool:=(iM f).isSome
def abq (f:Int):Bool:=(iM f).getD (zero .bool)
def sG (m:Bool)(K:Int→Option C)(g:aF C):aF C:=λs l f=>nm m 2 (f<il s) (bd f s.length) (nm m 1 (f<il s) (abp (ixs s f)) (nq m [1] (f<il s) (cond (cond (f<il s) (abq (ixs s f)) ß) (fz m tInt (w64 (f+1)) (λj=>g s l j)) (K (w64 (f-l))))))
def CT (m:Bool)(K:Int→Option C)(g:aF C)(s:Str)(f:Int):Option C:=let d:=bd f s.length;let c:=ixs s f;let b:Bool:=!f≥il s;let a:Bool:=!f≥il s&&!nR c;nm m 2 b d (nq m [2,2,2] b (nm m 2 a d (nq m [2,2] a (nm m 0 b (ii a&&ü) (nq m [0] b (cond (cond (f≥il s) ü (cond (!nR c) (!iS c) ß)) (K 0) (g s f f)))))))
def uI:Nat→aF Int:=lp (λ_ _ _=>ö) λf=>sG ß ä f
def i9 (s:Str)(f:Int):Option Int:=CT ß ä (uI FU) s f
def av (r:Int):AV :=.val tInt r
def TP:Ent:=evE (.cons .str (.cons tInt .unit)) av (zero tInt) λx=>i9 x.1 x.2.1
def H5:MS:=⟨0,[],[(0,.bb .str),(1,.bb tInt),(5,.bb tInt)]⟩
def TQ:Par:=⟨kh.tab,az [(280,tL),(281,o7),(367,Jc)],λ_=>look [],λ_=>look [(4,H5)]⟩
def Kj:KT:=bq kh.tab [.tmp 4] [tInt]
def TR (f g:Nat)(p:List Nat):Sg→KT→Option AV:=xc (bo fi0 hs0 f 0) TQ g f (sub (f319.body.getD .skip) p)
def uH (f n:Nat):aF AV:=λs j g=>aN 0 H5 (TR f 0 [1,1,1,0,0,0]) (ak 0 (aW 0 ö (TR f 0 [1,1,1,1]) Kj)) n ⟨mkE 40 [(0,.val .str s),(1,.val tInt j),(5,.val tInt g)],mkH 0 []⟩
def VQ (f g:Nat):uH f (g+1)=sG ü (sm av) (uH f g):=Φ
def VR:∀n,uH FU n=mp3 av (uI n):=cq Φ λf _ h=>(VQ FU f).trans (by rw[h];funext _ _ _;simp only[sG,ss])
def adB:aj prog 319 (TP):=evX func319 (S:=TQ) cL (ag ⟨FY,yu,XX,apa⟩) (tys:=[tInt]) (λf x=>CT ü (sm av) (uH f f) x.1 x.2.1) (λx=>by show _=Option.map av _;rw[VR FU];simp only[CT,i9,ss])
def u4 (m:Bool)(K:Int→Option C)(f:aE C):bf C:=λg=>cond g (K 1) f
def u0 (m:Bool)(K:Int→Option C):aE C:=(K 0)
def C4 (m:Bool)(K:Int→Option C)(p:bf C)(s:Str)(J:Int):Option C:=let l:=w64 (J+1);let k:Bool:=ixs s J=60;let j:Bool:=ixs s J=42;let i:Bool:=ixs s J=45;let h:Bool:=ixs s J=43;let g:Bool:=ixs s J=44;let f:Bool:=ixs s J=58;let e:Bool:=ixs s J=93;let d:Bool:=ixs s J=91;let c:Bool:=ixs s J=41;let b:Bool:=ixs s J=40;let a:Bool:=w64 (J+1)<il s;ck (bd J s.length) (cond (ixs s J=61) (nq m [2] a (nm m 2 a (bd l s.length) (nq m [2,1] a (cond (cond a (ixs s l=61) ß) (K 2) (K 1))))) (cond b (fz m .bool b (λr=>p r)) (cond c (fz m .bool c (λr=>p r)) (cond d (fz m .bool d (λr=>p r)) (cond e (fz m .bool e (λr=>p r)) (cond f (fz m .bool f (λr=>p r)) (cond g (fz m .bool g (λr=>p r)) (cond h (fz m .bool h (λr=>p r)) (cond i (fz m .bool i (λr=>p r)) (cond j (fz m .bool j (λr=>p r)) (cond k (fz m .bool k (λr=>p r)) (fz m .bool (decide (ixs s J=63)) (λr=>p r)))))))))))))
def qW:aE Int:=u0 ß ä
def qX:bf Int:=u4 ß ä qW
def sW (s:Str)(f:Int):Option Int:=C4 ß ä qX s f
def T6:Ent:=evE (.cons .str (.cons tInt .unit)) av (zero tInt) λx=>sW x.1 x.2.1
def Rm:MS:=⟨0,[],[(22,.bb .bool)]⟩
def T7:Par:=⟨kh.tab,az [],λ_=>look [(17,Rm),(18,bY)],λ_=>look []⟩
def KA (f g:Nat)(p:List Nat):Sg→KT→Option AV:=xc (bo fi0 hs0 f 0) T7 g f (sub (f283.body.getD .skip) p)
def xu (f:Nat):bf AV:=λg=>KA f 0 [1,0,1,0,1,1,1] ⟨mkE 34 [(22,.val .bool g)],mkH 0 []⟩ (ak 0 (aW 0 (ä bY) (KA f 0 [1,1]) Kj))
def xt (f:Nat):aE AV:=KA f 0 [1,1] ⟨mkE 34 [],mkH 0 []⟩ Kj
def Rp (f:Nat):xu f=u4 ü (sm av) (xt f):=Φ
def Rn (f:Nat):xt f=u0 ü (sm av):=Φ
def Ro:xt FU=mp0 av (qW):=(Rn FU).trans (by simp only[u0,qW,ss])
def Rq:xu FU=mp1 av (qX):=(Rp FU).trans (by rw[Ro];funext _;simp only[u4,qX,ss])
def adS:aj prog 283 (T6):=evX func283 (S:=T7) cL (ag trivial) (tys:=[tInt]) (λf x=>C4 ü (sm av) (xu f) x.1 x.2.1) (λx=>by show _=Option.map av _;rw[Rq];simp only[C4,sW,ss])
abbrev MP (C:Type):=Int→Int→Int→Str→Int→Option C
def qz (m:Bool)(K:be.den→Option C):MP C:=λg r1 j s f=>let a:=w64 (g+r1)+1;nq m [2,0] (!r1>24) (cond (cond (r1>24) ü (j>24)) (K (0,0,3,g,())) (cl m .bool (cT ((List.take (Int.toNat (w64 (w64 a+j))) s).drop (Int.toNat (w64 a)))) (λl=>cond l (K (0,0,2,g,())) (K (w64 (w64 (r1+1)+j),f,0,0,())))))
def RP (f:Str):Bool:=(cT f).isSome
def ge (f:Str):Bool:=(cT f).getD (zero .bool)
def Y4 (g:Str)(f:Int):Bool:=(i9 g f).isSome
def Kk (g:Str)(f:Int):Int:=(i9 g f).getD (zero tInt)
def yj (m:Bool)(K:be.den→Option C)(s:Str)(p:Int):Option C:=let l:=iS (ixs s p);let k:=bd p s.length;let g:=Int.toNat p;cl m tInt (i9 s p) λr1=>let h:=w64 (p+r1);let c:=List.take (Int.toNat h) s;let b:=w64 (p+r1)+1;let i:=w64 b;let n:=Int.toNat i;ck (0≤p&&p≤w64 (p+r1)&&w64 (p+r1)≤(s.length:Int)) (ck k (ce m .bool ü l (λJ=>let e:Bool:=cond J (!ge (c.drop g)) ß;let a:Bool:=cond e (w64 b<il s) ß;let d:Bool:=cond a (ixs s h=46) ß;nm m 1 J (RP (c.drop g)) (nq m [2,1] J (nq m [2,2,3,1] e (nm m 2 a (bd h s.length) (nq m [2,1] a (nq m [2] d (nm m 2 d (Y4 s i) (nq m [2,1] d (cond (cond d (Kk s i>0) ß) (cl m tInt (i9 s i) (λr=>let j:=w64 b+r;let f:=List.take (Int.toNat (w64 j)) s;ck (0≤w64 b&&w64 b≤w64 j&&w64 j≤(s.length:Int)) (ck (bd 0 (f.drop n).length) (ce m .bool ü (iS (ixs (f.drop n) 0)) (λT=>cond T (qz m K p r1 r s 4) (qz m K p r1 r s 3)))))) (cond (r1>24) (K (0,0,3,p,())) (cl m .bool (cT (c.drop g)) (λR=>cond R (K (r1,7,0,0,())) (ck k (ce m .bool ü l (λP=>cond P (K (r1,2,0,0,())) (K (r1,1,0,0,())))))))))))))))))))
def oS (s:Str)(f:Int):Option be.den:=yj ß ä s f
def fC (r:be.den):AV :=.val be r
def MR:Ent:=evE (.cons .str (.cons tInt .unit)) fC (zero be) λx=>oS x.1 x.2.1
def MQ:MS:=⟨1,[(0,[.bb tInt,.bb tInt,.bb tInt,.bb tInt])],[(1,.bb tInt),(4,.keep),(5,.bb tInt),(8,.bb tInt),(9,.bb .str),(10,.bb tInt)]⟩
def Y1:Par:=⟨kh.tab,az [(319,TP),(281,o7),(320,Cd)],λ_=>look [(10,MQ)],λ_=>look []⟩
def Y0:aj prog 282 (MR):=evX func282 (S:=Y1) cL (ag ⟨adB,yu,N4,apa⟩) (tys:=[be]) (λf x=>yj ü (sm fC) x.1 x.2.1) (λx=>by show _=Option.map fC _;simp only[yj,oS,qz,ss])
def tC (m:Bool)(K:be.den→Option C)(g:aF C):aF C:=λs l f=>let b:=K (0,0,2,l,());let a:=bd f s.length;cond (f<il s) (ck a (cond (ixs s f=34) (K (w64 (w64 (f+1)-l),6,0,0,())) (ck a (cl m .bool (e9 (ixs s f)) (λr=>cond (!r) (K (0,0,1,f,())) (ck a (ce m .bool ü (vr (ixs s f)) (λp=>nm m 2 (!!p) a (nq m [2,0] (!!p) (cond (cond (!p) ü (ixs s f=92)) b (fz m tInt (w64 (f+1)) (λj=>g s l j)))))))))))) b
def pH (m:Bool)(K:be.den→Option C)(j:aF C):aF C:=λs g f=>let a:Bool:=w64 (f-g)>1;nm m 2 (f<il s) (bd f s.length) (nq m [2,1] (f<il s) (cond (cond (f<il s) (vX (ixs s f)) ß) (fz m tInt (w64 (f+1)) (λl=>j s g l)) (nq m [2,1] a (cond (cond a (ixs s g=48) ß) (K (0,0,2,g,())) (cond (w64 (f-g)>15) (K (0,0,3,g,())) (K (w64 (f-g),5,0,0,())))))))
def Dj (m:Bool)(K:be.den→Option C)(j:aF C)(g:aF C)(s:Str)(f:Int):Option C:=let a:=ixs s f;ck (bd f s.length) (cl m .bool (e9 a) (λr1=>cond (!r1) (K (0,0,1,f,())) (cond (ixs s f=34) (fz m tInt (w64 (f+1)) (λl=>j s f l)) (ce m .bool ü (vX a) (λP=>cond P (g s f f) (ce m .bool ü (nR a) (λr=>nq m [2,0] (!r) (cond (cond r ü (iS a)) (cl m be (oS s f) (λJ=>K J)) (cl m tInt (sW s f) (λp=>cond (p=0) (K (0,0,2,f,())) (K (p,8,0,0,()))))))))))))
def vC:Nat→aF be.den:=lp (λ_ _ _=>ö) λf=>tC ß ä f
def ry:Nat→aF be.den:=lp (λ_ _ _=>ö) λf=>pH ß ä f
def tD (s:Str)(f:Int):Option be.den:=Dj ß ä (vC FU) (ry FU) s f
def UF:Ent:=evE (.cons .str (.cons tInt .unit)) fC (zero be) λx=>tD x.1 x.2.1
def IQ:MS:=⟨1,[(0,[.bb tInt,.bb tInt,.bb tInt,.bb tInt])],[(0,.bb .str),(1,.bb tInt),(4,.keep),(6,.bb tInt)]⟩
def FH:MS:=⟨1,[(0,[.bb tInt,.bb tInt,.bb tInt,.bb tInt])],[(0,.bb .str),(1,.bb tInt),(4,.keep),(5,.bb (.int .u8)),(7,.bb tInt)]⟩
def UG:Par:=⟨kh.tab,az [(277,yb),(279,Ac),(280,tL),(281,o7),(282,MR),(283,T6),(278,rm)],λ_=>look [],λ_=>look [(6,IQ),(17,FH)]⟩
def UH:KT:=bq kh.tab [.cell 4 288] [be]
def vD (f g:Nat)(p:List Nat):Sg→KT→Option AV:=xc (bo fi0 hs0 f 0) UG g f (sub (f227.body.getD .skip) p)
def vA (f n:Nat):aF AV:=λs j g=>aN 0 IQ (vD f 0 [1,1,0,0,1,1,1,0,0,1,0,0]) (ak 1 (aW 0 ö (vD f 0 [1,1,0,0,1,1,1,0,1]) (ak 0 (aW 0 ö (vD f 0 [1,1,1]) UH)))) n ⟨mkE 120 [(0,.val .str s),(1,.val tInt j),(4,.box 0 0),(6,.val tInt g)],mkH 1 [(0,.box [.val tInt (0:Int),.val tInt (0:Int),.val tInt (0:Int),.val tInt (0:Int)])]⟩
def rx (f n:Nat):aF AV:=λs g j=>aN 0 FH (vD f 0 [1,1,0,0,1,1,1,1,1,0,1,0,0,0]) (ak 4 (aW 0 ö (vD f 0 [1,1,0,0,1,1,1,1,1,0,1,1]) (ak 0 (aW 0 ö (vD f 0 [1,1,1]) UH)))) n ⟨mkE 120 [(0,.val .str s),(1,.val tInt g),(4,.box 0 0),(5,.val (.int .u8) (ixs s g)),(7,.val tInt j)],mkH 1 [(0,.box [.val tInt (0:Int),.val tInt (0:Int),.val tInt (0:Int),.val tInt (0:Int)])]⟩
def Xl (f g:Nat):vA f (g+1)=tC ü (sm fC) (vA f g):=Φ
def Su (f g:Nat):rx f (g+1)=pH ü (sm fC) (rx f g):=Φ
def Xm:∀n,vA FU n=mp3 fC (vC n):=cq Φ λf _ h=>(Xl FU f).trans (by rw[h];funext _ _ _;simp only[tC,ss])
def Sv:∀n,rx FU n=mp3 fC (ry n):=cq Φ λf _ h=>(Su FU f).trans (by rw[h];funext _ _ _;simp only[pH,ss])
def aeL:aj prog 227 (UF):=evX func227 (S:=UG) cL (ag ⟨Hd,Qf,FY,yu,Y0,adS,E9,apa⟩) (tys:=[be]) (λf x=>Dj ü (sm fC) (vA f f) (rx f f) x.1 x.2.1) (λx=>by show _=Option.map fC _;rw[Xm FU,Sv FU];simp only[Dj,tD,ss])
def tQ (m:Bool)(K:sS.den→Option C)(j:aF C)(g:aF C):aF C:=λs l f=>let a:=bd f s.length;cond (f<il s) (ck a (ce m .bool ü (qE (ixs s f)) (λr1=>cond r1 (fz m tInt (w64 (f+1)) (λp=>j s l p)) (ck a (cond (ixs s f=35) (g s l f) (K (w64 (f-l),(-1:Int),()))))))) (K (w64 (f-l),(-1:Int),()))
def tP (m:Bool)(K:sS.den→Option C)(g:aF C)(j:aF C):aF C:=λs p f=>let a:=bd f s.length;nm m 2 (f<il s) a (nq m [2,1] (f<il s) (cond (cond (f<il s) (!ixs s f=10) ß) (ck a (cl m .bool (e9 (ixs s f)) (λr=>cond (!r) (K (w64 (f-p),f,())) (fz m tInt (w64 (f+1)) (λl=>g s p l))))) (j s p f)))
def Dm (m:Bool)(K:sS.den→Option C)(f:aF C)(s:Str)(g:Int):Option C:=f s g g
def pS (g:aF sS.den):Nat→aF sS.den:=lp (λ_ _ _=>ö) λf=>tP ß ä f g
def pT:Nat→aF sS.den:=lp (λ_ _ _=>ö) λf=>tQ ß ä f (pS f FU)
def tR (s:Str)(f:Int):Option sS.den:=Dm ß ä (pT FU) s f
def nS (r:sS.den):AV :=.tup (aY [.val tInt r.1,.val tInt r.2.1])
def UO:Ent:=evE (.cons .str (.cons tInt .unit)) nS (zero sS) λx=>tR x.1 x.2.1
def pR:MS:=⟨0,[],[(0,.bb .str),(1,.bb tInt),(6,.bb tInt)]⟩
def UP:Par:=⟨kh.tab,az [(276,sI),(277,yb)],λ_=>look [],λ_=>look [(2,pR),(7,pR)]⟩
def UQ:KT:=bq kh.tab [.tmp 4,.tmp 5] [tInt,tInt]
def zC (f g:Nat)(p:List Nat):Sg→KT→Option AV:=xc (bo fi0 hs0 f 0) UP g f (sub (f226.body.getD .skip) p)
def kX (f n:Nat):aF AV:=λs j g=>aN 0 pR (zC f 0 [1,1,0,0,0]) (ak 0 (aW 0 ö (zC f 0 [1,1,1]) UQ)) n ⟨mkE 51 [(0,.val .str s),(1,.val tInt j),(6,.val tInt g)],mkH 0 []⟩
def vI (f l n:Nat):aF AV:=λs j g=>aN 0 pR (zC f 0 [1,1,0,0,0,1,0,0,1,1,1,0,0,0]) (ak 3 (ak 2 (ak 1 (kLp 0 pR (zC f 0 [1,1,0,0,0]) (ak 0 (aW 0 ö (zC f 0 [1,1,1]) UQ)) l)))) n ⟨mkE 51 [(0,.val .str s),(1,.val tInt j),(6,.val tInt g)],mkH 0 []⟩
def XG (f g:Nat):kX f (g+1)=tQ ü (sm nS) (kX f g) (vI f g f):=Φ
def XE (f g j:Nat):vI f g (j+1)=tP ü (sm nS) (vI f g j) (kX f g):=Φ
def XF (j:Nat){f:aF sS.den}(g:kX FU j=mp3 nS f):∀n,vI FU j n=mp3 nS (pS f n):=cq Φ λl _ h=>(XE FU j l).trans (by rw[h,g];funext _ _ _;simp only[tP,ss])
def XH:∀n,kX FU n=mp3 nS (pT n):=cq Φ λf _ h=>(XG FU f).trans (by rw[h,XF f h FU];funext _ _ _;simp only[tQ,ss])
def aeT:aj prog 226 (UO):=evX func226 (S:=UP) cL (ag ⟨DZ,Hd,apa⟩) (tys:=[tInt,tInt]) (λf x=>Dm ü (sm nS) (kX f f) x.1 x.2.1) (λx=>by show _=Option.map nS _;rw[XH FU];simp only[Dm,tR,ss])
def zG (m:Bool)(K:Bool→Option C)(f:aE C):bf C:=λg=>cond g (K ü) f
def zF (m:Bool)(K:Bool→Option C):aE C:=(K ß)
def Dq (m:Bool)(K:Bool→Option C)(g:bf C)(s:Str):Option C:=cond (s=[43]) (fz m .bool (decide (s=[43])) (λf=>g f)) (cond (s=[45]) (fz m .bool (decide (s=[45])) (λf=>g f)) (cond (s=[42]) (fz m .bool (decide (s=[42])) (λf=>g f)) (cond (s=[60]) (fz m .bool (decide (s=[60])) (λf=>g f)) (fz m .bool (decide (s=[61,61])) (λf=>g f)))))
def vK:aE Bool:=zF ß ä
def vL:bf Bool:=zG ß ä vK
def tU (s:Str):Option Bool:=Dq ß ä vL s
def UW:Ent:=evE (.cons .str .unit) ae (zero .bool) λx=>tU x.1
def UX:Par:=⟨kh.tab,az [],λ_=>look [(7,tl),(8,bY)],λ_=>look []⟩
def LG (f g:Nat)(p:List Nat):Sg→KT→Option AV:=xc (bo fi0 hs0 f 0) UX g f (sub (f286.body.getD .skip) p)
def Be (f:Nat):bf AV:=λg=>LG f 0 [1,0,1,0,1] ⟨mkE 10 [(4,.val .bool g)],mkH 0 []⟩ (ak 0 (aW 0 (ä bY) (LG f 0 [1,1]) zB))
def Bc (f:Nat):aE AV:=LG f 0 [1,1] ⟨mkE 10 [],mkH 0 []⟩ zB
def XO (f:Nat):Be f=zG ü (sm ae) (Bc f):=Φ
def XM (f:Nat):Bc f=zF ü (sm ae):=Φ
def XN:Bc FU=mp0 ae (vK):=(XM FU).trans (by simp only[zF,vK,ss])
def XP:Be FU=mp1 ae (vL):=(XO FU).trans (by rw[XN];funext _;simp only[zG,vL,ss])
def ae1:aj prog 286 (UW):=evX func286 (S:=UX) cL (ag trivial) (tys:=[.bool]) (λf x=>Dq ü (sm ae) (Be f) x.1) (λx=>by show _=Option.map ae _;rw[XP];simp only[Dq,tU,ss])
def Lt (m:Bool)(K:Int→Option C)(x:Int)(f:Int):Option C:=cond (f<1) (K 0) (ck (!f=0) (ck (!f=0) (K (Int.tmod (w64 (Int.tmod x f+f)) f))))
def mod2_ev (x:Int)(f:Int):Option Int:=Lt ß ä x f
def tH:Ent:=evE (.cons tInt (.cons tInt .unit)) av (zero tInt) λx=>mod2_ev x.1 x.2.1
def ahN:Par:=⟨kh.tab,az [],λ_=>look [],λ_=>look []⟩
def mod2_x:aj prog 18 (tH):=evX func18 (S:=ahN) cL (ag trivial) (tys:=[tInt]) (λf x=>Lt ü (sm av) x.1 x.2.1) (λx=>by show _=Option.map av _;simp only[Lt,mod2_ev,ss])
def Ak (m:Bool)(K:Int→Option C)(text:Str):Option C:=let c:=qE (ixs text 0);let b:=bd 0 text.length;let a:Bool:=!cond (text=[]) ü c;nm m 1 (!text=[]) b (nq m [2,0] (!text=[]) (nm m 1 a b (nq m [2,0] a (cond (cond (cond (text=[]) ü c) ü (ixs text 0=35)) (K 0) (cl m be (tD text 0) (λr1=>nq m [2,2,3,0] (!!r1.2.2.1=0) (cond (cond (!r1.2.2.1=0) ü (!r1.1=il text)) (K 0) (K r1.2.1))))))))
def ld (text:Str):Option Int:=Ak ß ä text
def G3:Ent:=evE (.cons .str .unit) av (zero tInt) λx=>ld x.1
def acB:Par:=⟨kh.tab,az [(276,sI),(227,UF)],λ_=>look [],λ_=>look []⟩
def Qs:aj prog 235 (G3):=evX func235 (S:=acB) cL (ag ⟨DZ,aeL,apa⟩) (tys:=[tInt]) (λf x=>Ak ü (sm av) x.1) (λx=>by show _=Option.map av _;simp only[Ak,ld,ss])
abbrev eF (C:Type):=Str→Bool→Int→Option C
abbrev yv (C:Type):=Str→Int→Bool→Option C
def lE (m:Bool)(K:Bool→Option C)(g:eF C):yv C:=λs i f=>fz m tInt (w64 (i+1)) λj=>g s f j
def jc (m:Bool)(K:Bool→Option C)(g:eF C):yv C:=λs i f=>ck (bd i s.length) (cond (ixs s i=10) (lE m K g s i ß) (lE m K g s i f))
def lD (m:Bool)(K:Bool→Option C)(g:eF C):eF C:=λs f i=>cond (i<il s) (ck (bd i s.length) (cond (ixs s i=35) (jc m K g s i ü) (jc m K g s i f))) (K (!f))
def uP (m:Bool)(K:Bool→Option C)(f:eF C)(s:Str)(g:Bool):Option C:=cl m sS (tR s 0) λr1=>nq m [2,3,0] (!r1.2.1≥0) (cond (cond (r1.2.1≥0) ü (r1.1<il s)) (K ß) (cond g (K ü) (f s ß 0)))
def nz:Nat→eF Bool:=lp (λ_ _ _=>ö) λf=>lD ß ä f
def iG (s:Str)(f:Bool):Option Bool:=uP ß ä (nz FU) s f
def Id:Ent:=evE (.cons .str (.cons .bool .unit)) ae (zero .bool) λx=>iG x.1 x.2.1
def nx:MS:=⟨0,[],[(0,.bb .str),(7,.bb .bool),(8,.bb tInt)]⟩
def Ie:Par:=⟨kh.tab,az [(226,UO)],λ_=>look [(12,nx),(9,nx)],λ_=>look [(8,nx)]⟩
def V5:KT:=bq kh.tab [.tmp 4] [.bool]
def If (f g:Nat)(p:List Nat):Sg→KT→Option AV:=xc (bo fi0 hs0 f 0) Ie g f (sub (f237.body.getD .skip) p)
def ny (g n:Nat):eF AV:=λs f i=>aN 0 nx (If g 0 [1,1,1,1,1,0,1,0,0]) (ak 0 (aW 0 ö (If g 0 [1,1,1,1,1,1]) V5)) n ⟨mkE 39 [(0,.val .str s),(7,.val .bool f),(8,.val tInt i)],mkH 0 []⟩
def Nh (f g:Nat):ny f (g+1)=lD ü (sm ae) (ny f g):=Φ
def Ni:∀n,ny FU n=mp3 ae (nz n):=cq Φ λf _ h=>(Nh FU f).trans (by rw[h];funext _ _ _;simp only[lD,jc,lE,ss])
def V4:aj prog 237 (Id):=evX func237 (S:=Ie) cL (ag ⟨aeT,apa⟩) (tys:=[.bool]) (λf x=>uP ü (sm ae) (ny f f) x.1 x.2.1) (λx=>by show _=Option.map ae _;rw[Ni FU];simp only[uP,iG,jc,lE,ss])
abbrev wK (C:Type):=Str→Int→Int→Bool→Option C
abbrev Ef (C:Type):=Str→Option C
def oA (m:Bool)(K:Bool→Option C):Ef C:=λs=>K (decide (s=[]))
def dU (m:Bool)(K:Bool→Option C):wK C:=λs r1 f g=>cond g (K (decide (r1=1))) (cond (f=9) (nq m [2,0] (!r1=2) (K (cond (r1=2) ü (decide (r1=4))))) (cond (f=16) (nq m [2,0] (!r1=1) (K (cond (r1=1) ü (decide (r1=3))))) (cond (f=10) (K (decide (r1=5))) (cond (f=11) (K (decide (r1=6))) (cond (f=21) (cl m .bool (tU s) (λj=>K j)) (oA m K s))))))
def kg (m:Bool)(K:Bool→Option C):wK C:=λs r1 f j=>cond j (K (decide (r1=2))) (cond (f=2) (fz m .bool (decide (f=2)) (λg=>dU m K s r1 f g)) (cond (f=4) (fz m .bool (decide (f=4)) (λg=>dU m K s r1 f g)) (cond (f=12) (fz m .bool (decide (f=12)) (λg=>dU m K s r1 f g)) (fz m .bool (decide (f=20)) (λg=>dU m K s r1 f g)))))
def nA (m:Bool)(K:Bool→Option C)(f:Int)(s:Str):Option C:=cl m tInt (ld s) λr1=>cond (f=1) (fz m .bool (decide (f=1)) (λg=>kg m K s r1 f g)) (fz m .bool (decide (f=3)) (λg=>kg m K s r1 f g))
def gT (f:Int)(s:Str):Option Bool:=nA ß ä f s
def BX:Ent:=evE (.cons tInt (.cons .str .unit)) ae (zero .bool) λx=>gT x.1 x.2.1
def Hp:MS:=⟨0,[],[(1,.bb .str),(5,.bb tInt),(8,.bb tInt),(9,.bb .bool)]⟩
def Eh:MS:=⟨0,[],[(1,.bb .str),(5,.bb tInt),(8,.bb tInt),(14,.bb .bool)]⟩
def Eg:MS:=⟨0,[],[(1,.bb .str)]⟩
def Nm:Par:=⟨kh.tab,az [(235,G3),(286,UW)],λ_=>look [(5,Hp),(10,Eh),(21,Eg)],λ_=>look []⟩
def Nl:aj prog 273 (BX):=evX func273 (S:=Nm) cL (ag ⟨Qs,ae1,apa⟩) (tys:=[.bool]) (λf x=>nA ü (sm ae) x.1 x.2.1) (λx=>by show _=Option.map ae _;simp only[nA,gT,dU,oA,kg,ss])
end
abbrev aM:Ty:=.cons tInt (.cons .bool (.cons .str (.cons tInt .unit)))
abbrev aa:Ty:=(.cons tInt (.cons tInt (.cons aM .unit)))
abbrev Υ:=List aa.den
abbrev tCommit:Ty:=.cons tInt (.cons (.slice tInt) (.cons (.slice tInt) (.cons .str (.cons (.slice aa) .unit))))
abbrev Λ:=List tCommit.den
abbrev aP:Ty:=(.cons (.slice aa) .unit)
def fce (i:Nat)(f n:Int)(s:List Nat)(r:Nat):aa.den:=(Int.ofNat (Nat.add 1048576 i),f,(n,ß,s.map UInt8.ofNat,(match r with|0=>0|r+1=>Int.ofNat (Nat.add 1048577 r)),()),())
def fst0:tCommit.den:=(1048594,[],[],[102,105,114,115,116],[fce 1 1 1 [] 0,fce 1 2 1 [] 0,fce 1 3 0 [77] 0,fce 1 9 0 [32] 0,fce 1 10 0 [10] 0,fce 2 1 2 [] 0,fce 2 2 0 [105,114] 1,fce 2 3 0 [102] 0,fce 2 8 0 [10] 0,fce 2 9 0 [32] 0,fce 2 13 0 [32] 0,fce 3 1 4 [] 0,fce 3 2 0 [105,114] 2,fce 3 3 0 [120] 0,fce 4 1 5 [] 0,fce 4 2 1 [] 3,fce 4 4 5 [] 0,fce 4 8 0 [32] 0,fce 5 1 4 [] 0,fce 5 2 0 [114,105] 2,fce 5 3 0 [121] 0,fce 5 8 0 [32] 0,fce 6 1 5 [] 0,fce 6 2 1 [] 5,fce 6 4 5 [] 0,fce 6 8 0 [32] 0,fce 7 1 5 [] 0,fce 7 2 1 [] 2,fce 7 4 5 [] 0,fce 7 8 0 [32] 0,fce 8 1 5 [] 0,fce 8 2 2 [] 2,fce 8 4 21 [43] 0,fce 8 8 0 [32] 0,fce 9 1 5 [] 0,fce 9 2 1 [] 8,fce 9 4 12 [] 3,fce 9 8 0 [32] 0,fce 10 1 5 [] 0,fce 10 2 2 [] 8,fce 10 4 12 [] 5,fce 10 8 0 [32] 0,fce 11 1 2 [] 0,fce 11 2 0 [114,105] 1,fce 11 3 0 [103] 0,fce 11 8 0 [10] 0,fce 11 9 0 [32] 0,fce 11 13 0 [32] 0,fce 12 1 5 [] 0,fce 12 2 1 [] 11,fce 12 4 5 [] 0,fce 12 8 0 [32] 0,fce 13 1 5 [] 0,fce 13 2 2 [] 11,fce 13 4 16 [] 2,fce 13 8 0 [32] 0,fce 14 1 5 [] 0,fce 14 2 0 [105,114] 13,fce 14 4 17 [] 3,fce 15 1 5 [] 0,fce 15 2 1 [] 14,fce 15 4 10 [49] 0,fce 16 1 5 [] 0,fce 16 2 0 [114,105] 13,fce 16 4 17 [] 5,fce 17 1 5 [] 0,fce 17 2 1 [] 16,fce 17 4 10 [50] 0,fce 17 8 0 [32] 0],())
def fst1:tCommit.den:=(1048589,[],[],[102,105,114,115,116],[fce 1 1 1 [] 0,fce 1 2 1 [] 0,fce 1 3 0 [77] 0,fce 1 9 0 [32] 0,fce 1 10 0 [32,35,32,99,10] 0,fce 2 1 2 [] 0,fce 2 2 0 [110,98] 1,fce 2 3 0 [102] 0,fce 2 8 0 [10] 0,fce 2 9 0 [32] 0,fce 2 13 0 [32] 0,fce 3 1 4 [] 0,fce 3 2 0 [110,98] 2,fce 3 3 0 [120] 0,fce 4 1 5 [] 0,fce 4 2 1 [] 3,fce 4 4 5 [] 0,fce 4 8 0 [32] 0,fce 5 1 5 [] 0,fce 5 2 1 [] 2,fce 5 4 5 [] 0,fce 5 8 0 [32] 0,fce 6 1 5 [] 0,fce 6 2 2 [] 2,fce 6 4 12 [] 3,fce 6 8 0 [32] 0,fce 7 1 1 [] 0,fce 7 2 1 [] 0,fce 7 3 0 [78] 0,fce 7 9 0 [32] 0,fce 7 10 0 [10] 0,fce 8 1 2 [] 0,fce 8 2 0 [110,98] 7,fce 8 3 0 [107] 0,fce 8 8 0 [10] 0,fce 8 9 0 [32] 0,fce 8 13 0 [32] 0,fce 9 1 5 [] 0,fce 9 2 1 [] 8,fce 9 4 5 [] 0,fce 9 8 0 [32] 0,fce 10 1 5 [] 0,fce 10 2 2 [] 8,fce 10 4 16 [] 2,fce 10 8 0 [32] 0,fce 11 1 5 [] 0,fce 11 2 0 [110,98] 10,fce 11 4 17 [] 3,fce 12 1 5 [] 0,fce 12 2 1 [] 11,fce 12 4 10 [55] 0],())
def fst2:tCommit.den:=(1048588,[],[],[102,105,114,115,116],[fce 1 1 1 [] 0,fce 1 2 1 [] 0,fce 1 3 0 [77] 0,fce 1 9 0 [32] 0,fce 2 1 3 [] 0,fce 2 2 0 [105,114] 1,fce 2 3 0 [84] 0,fce 2 8 0 [32] 0,fce 2 9 0 [32] 0,fce 2 10 0 [32] 0,fce 3 1 5 [] 0,fce 3 2 1 [] 2,fce 3 4 8 [] 0,fce 3 8 0 [32] 0,fce 4 1 5 [] 0,fce 4 2 1 [] 3,fce 4 4 5 [] 0,fce 5 1 2 [] 0,fce 5 2 0 [114,105] 1,fce 5 3 0 [104] 0,fce 5 8 0 [32] 0,fce 5 9 0 [32] 0,fce 5 13 0 [32] 0,fce 6 1 4 [] 0,fce 6 2 0 [110,98] 5,fce 6 3 0 [97] 0,fce 7 1 5 [] 0,fce 7 2 1 [] 6,fce 7 4 9 [] 2,fce 7 8 0 [32] 0,fce 8 1 5 [] 0,fce 8 2 1 [] 5,fce 8 4 9 [] 2,fce 8 8 0 [32] 0,fce 9 1 5 [] 0,fce 9 2 2 [] 5,fce 9 4 18 [] 0,fce 9 8 0 [32] 0,fce 10 1 5 [] 0,fce 10 2 0 [105,114] 9,fce 10 4 10 [49] 0,fce 11 1 5 [] 0,fce 11 2 0 [114,105] 9,fce 11 4 10 [50] 0,fce 11 8 0 [32] 0],())
def fst3:tCommit.den:=(1048588,[],[],[102,105,114,115,116],[fce 1 1 1 [] 0,fce 1 2 1 [] 0,fce 1 3 0 [77] 0,fce 1 9 0 [32] 0,fce 1 10 0 [10] 0,fce 2 1 2 [] 0,fce 2 2 0 [110,98] 1,fce 2 3 0 [102] 0,fce 2 8 0 [10] 0,fce 2 9 0 [32] 0,fce 2 13 0 [32] 0,fce 3 1 4 [] 0,fce 3 2 0 [110,98] 2,fce 3 3 0 [98] 0,fce 4 1 5 [] 0,fce 4 2 1 [] 3,fce 4 4 7 [] 0,fce 4 8 0 [32] 0,fce 5 1 5 [] 0,fce 5 2 1 [] 2,fce 5 4 5 [] 0,fce 5 8 0 [32] 0,fce 6 1 5 [] 0,fce 6 2 2 [] 2,fce 6 4 19 [] 0,fce 6 8 0 [32] 0,fce 6 9 0 [32] 0,fce 6 10 0 [32] 0,fce 7 1 5 [] 0,fce 7 2 1 [] 6,fce 7 4 12 [] 3,fce 7 8 0 [32] 0,fce 8 1 5 [] 0,fce 8 2 2 [] 6,fce 8 4 10 [49] 0,fce 8 8 0 [32] 0,fce 9 1 5 [] 0,fce 9 2 3 [] 6,fce 9 4 20 [97] 0,fce 9 8 0 [32] 0,fce 9 9 0 [32] 0,fce 9 10 0 [32] 0,fce 9 11 0 [32] 0,fce 10 1 5 [] 0,fce 10 2 1 [] 9,fce 10 4 10 [50] 0,fce 10 8 0 [32] 0,fce 11 1 5 [] 0,fce 11 2 2 [] 9,fce 11 4 12 [] 9,fce 11 8 0 [32] 0],())
def fst4:tCommit.den:=(1048578,[],[],[102,105,114,115,116],[fce 1 1 1 [] 0,fce 1 2 1 [] 0,fce 1 3 0 [77] 0,fce 1 9 0 [32] 0,fce 1 10 0 [10] 0],())
def fst5:tCommit.den:=(1048585,[],[],[102,105,114,115,116],[fce 1 1 1 [] 0,fce 1 2 1 [] 0,fce 1 3 0 [77] 0,fce 1 9 0 [32] 0,fce 1 10 0 [10] 0,fce 2 1 2 [] 0,fce 2 2 0 [105,114] 1,fce 2 3 0 [102] 0,fce 2 8 0 [10] 0,fce 2 9 0 [32] 0,fce 2 13 0 [32] 0,fce 3 1 5 [] 0,fce 3 2 1 [] 2,fce 3 4 6 [] 0,fce 3 8 0 [32] 0,fce 4 1 5 [] 0,fce 4 2 2 [] 2,fce 4 4 11 [34,97,34] 0,fce 4 8 0 [32] 0,fce 5 1 2 [] 0,fce 5 2 0 [114,105] 1,fce 5 3 0 [103] 0,fce 5 8 0 [10] 0,fce 5 9 0 [32] 0,fce 5 13 0 [32] 0,fce 6 1 5 [] 0,fce 6 2 1 [] 5,fce 6 4 6 [] 0,fce 6 8 0 [32] 0,fce 7 1 5 [] 0,fce 7 2 2 [] 5,fce 7 4 22 [] 0,fce 7 8 0 [32] 0,fce 8 1 5 [] 0,fce 8 2 1 [] 7,fce 8 4 16 [] 2],())
def fst6:tCommit.den:=(1048602,[],[],[102,105,114,115,116],[fce 1 1 1 [] 0,fce 1 2 1 [] 0,fce 1 3 0 [77] 0,fce 1 9 0 [32] 0,fce 2 1 2 [] 0,fce 2 2 0 [105,114] 1,fce 2 3 0 [102] 0,fce 2 8 0 [32] 0,fce 2 9 0 [32] 0,fce 2 13 0 [32] 0,fce 3 1 4 [] 0,fce 3 2 0 [110,98] 2,fce 3 3 0 [120] 0,fce 4 1 5 [] 0,fce 4 2 1 [] 3,fce 4 4 5 [] 0,fce 4 8 0 [32] 0,fce 5 1 5 [] 0,fce 5 2 1 [] 2,fce 5 4 5 [] 0,fce 5 8 0 [32] 0,fce 6 1 5 [] 0,fce 6 2 2 [] 2,fce 6 4 21 [42] 0,fce 6 8 0 [32] 0,fce 7 1 5 [] 0,fce 7 2 1 [] 6,fce 7 4 16 [] 2,fce 7 8 0 [32] 0,fce 8 1 5 [] 0,fce 8 2 0 [110,98] 7,fce 8 4 17 [] 3,fce 9 1 5 [] 0,fce 9 2 1 [] 8,fce 9 4 12 [] 3,fce 10 1 5 [] 0,fce 10 2 2 [] 6,fce 10 4 10 [50] 0,fce 10 8 0 [32] 0,fce 11 1 2 [] 0,fce 11 2 0 [114,105] 1,fce 11 3 0 [103] 0,fce 11 8 0 [32] 0,fce 11 9 0 [32] 0,fce 11 13 0 [32] 0,fce 12 1 4 [] 0,fce 12 2 0 [105,114] 11,fce 12 3 0 [120] 0,fce 13 1 5 [] 0,fce 13 2 1 [] 12,fce 13 4 5 [] 0,fce 13 8 0 [32] 0,fce 14 1 4 [] 0,fce 14 2 0 [114,105] 11,fce 14 3 0 [121] 0,fce 14 8 0 [32] 0,fce 15 1 5 [] 0,fce 15 2 1 [] 14,fce 15 4 5 [] 0,fce 15 8 0 [32] 0,fce 16 1 5 [] 0,fce 16 2 1 [] 11,fce 16 4 7 [] 0,fce 16 8 0 [32] 0,fce 17 1 5 [] 0,fce 17 2 2 [] 11,fce 17 4 21 [60] 0,fce 17 8 0 [32] 0,fce 18 1 5 [] 0,fce 18 2 1 [] 17,fce 18 4 16 [] 2,fce 18 8 0 [32] 0,fce 19 1 5 [] 0,fce 19 2 0 [110,98] 18,fce 19 4 17 [] 3,fce 20 1 5 [] 0,fce 20 2 1 [] 19,fce 20 4 12 [] 12,fce 21 1 5 [] 0,fce 21 2 2 [] 17,fce 21 4 16 [] 2,fce 21 8 0 [32] 0,fce 22 1 5 [] 0,fce 22 2 0 [110,98] 21,fce 22 4 17 [] 3,fce 23 1 5 [] 0,fce 23 2 1 [] 22,fce 23 4 16 [] 2,fce 24 1 5 [] 0,fce 24 2 0 [110,98] 23,fce 24 4 17 [] 3,fce 25 1 5 [] 0,fce 25 2 1 [] 24,fce 25 4 12 [] 14],())
def fst7:tCommit.den:=(1048589,[],[],[102,105,114,115,116],[fce 1 1 1 [] 0,fce 1 2 1 [] 0,fce 1 3 0 [77] 0,fce 1 9 0 [32] 0,fce 1 10 0 [10] 0,fce 2 1 2 [] 0,fce 2 2 0 [110,98] 1,fce 2 3 0 [102] 0,fce 2 8 0 [10] 0,fce 2 9 0 [32] 0,fce 2 13 0 [32] 0,fce 3 1 4 [] 0,fce 3 2 0 [110,98] 2,fce 3 3 0 [120] 0,fce 4 1 5 [] 0,fce 4 2 1 [] 3,fce 4 4 5 [] 0,fce 4 8 0 [32] 0,fce 5 1 5 [] 0,fce 5 2 1 [] 2,fce 5 4 5 [] 0,fce 5 8 0 [32] 0,fce 6 1 5 [] 0,fce 6 2 2 [] 2,fce 6 4 16 [103] 0,fce 6 8 0 [32] 0,fce 7 1 5 [] 0,fce 7 2 0 [110,98] 6,fce 7 4 17 [] 0,fce 8 1 5 [] 0,fce 8 2 1 [] 7,fce 8 4 12 [] 3,fce 9 1 1 [] 0,fce 9 2 1 [] 0,fce 9 3 0 [78] 0,fce 9 9 0 [32] 0,fce 9 10 0 [10] 0,fce 10 1 2 [] 0,fce 10 2 0 [110,98] 9,fce 10 3 0 [102] 0,fce 10 8 0 [10] 0,fce 10 9 0 [32] 0,fce 10 13 0 [32] 0,fce 11 1 5 [] 0,fce 11 2 1 [] 10,fce 11 4 5 [] 0,fce 11 8 0 [32] 0,fce 12 1 5 [] 0,fce 12 2 2 [] 10,fce 12 4 15 [] 0,fce 12 8 0 [32] 0],())
def fstL:Int→tCommit.den
 |0=>fst0
 |1=>fst1
 |2=>fst2
 |3=>fst3
 |4=>fst4
 |5=>fst5
 |6=>fst6
 |_=>fst7
def firstF (x:Int):tCommit.den:=fstL ((mod2_ev x 8).getD 0)
section
def PH:Ent:=sp1 tInt (λ_=>ü) λf=>.val tCommit (firstF f)
end
