/- The equations of the program's functions. -/
import Derived.Test.YtfgpipfjalmooaaGreatAbs1
import Derived.Test.YtfgpipfjalmooaaGreatChecked
set_option linter.all false
noncomputable section
namespace Go.Proofs.YtfgpipfjalmooaaGreat
namespace Abs
abbrev tInt:Ty :=.int .i64
abbrev bg:Ty:=.cons tInt (.cons tInt (.cons tInt (.cons tInt .unit)))
abbrev La':=List bg.den
abbrev tM:Ty:=(.cons tInt (.cons tInt .unit))
open Go Tryz
section
def kN:TabL:={
 ty:=[(3,tInt),(4,.bool),(5,(.int .u8)),(9,.str),(45,tInt),(288,bg)],
 cells:=[(3,1),(4,1),(5,1),(9,1),(45,1),(288,4)],
 offs:=[((288,0),0),((288,1),1),((288,2),2),((288,3),3)],
 one:=[],
 elem:=[] }
def cI:TabOk prog kN.tab:=TabL.ok Φ
def follows:prog.follows .mixedOrders=true:=Φ
def fi0:FuncId→Option Fi:=λ_=>none
def acj:∀f x,fi0 f=some x→FiOk prog f x:=λ_ _ h=>by cases h
variable{f:FuncId}{fn:Func}{S:Par}{C:Type}
def evX {R:Type}(P:prog.funcs[f]? = some fn)(C:TabOk prog S.tab)(r:SpecsOk prog S.T){a:Ty}{tys:List Ty}{o:R→AV}{z:R}{g:a.den→Option R}(T:Nat→a.den→Option AV)(p:∀y,T FU y=Option.map o (g y))(J:we fn=true:=by kernel_rfl)(l:∀j y,mn fi0 hs0 0 (jm fn S) tys j (WJ a y)=T j y:=by intro _ _;kernel_rfl):ak prog f (evE a o z g):=ajx follows acj eA P C r T p J l
def nwX (U:prog.funcs[f]? = some fn)(P:TabOk prog S.tab)(J:SpecsOk prog S.T){l a:Ty}{e:TypeId}{g:a.den→Option (List l.den)}(T:Nat→a.den→Option AV)(C:∀y,T FU y=Option.map (λr=>.val (.slice l) r) (g y))(R:we fn=true:=by kernel_rfl)(p:∀j y,aaz fi0 hs0 0 (jm fn S) l e j (WJ a y)=T j y:=by intro _ _;kernel_rfl):Uy prog f (nwE l a e g):=ajn follows acj eA U P J T C R p
def kA (c:Bool)(t:Ty)(x y:t.den):cond c (some (AV.val t x)) (some (AV.val t y))=some (AV.val t (cond c x y)):=by cases c <;> rfl
def oK (c:Int):Bool:=cond (c≥97) (decide (c≤122)) false
def GG:List (Nat×Ent):=[]
def abn:Par:=⟨kN.tab,az GG,λ_=>look [],λ_=>look []⟩
def abm:Code:=(f280.body).getD .skip
def Pz:Fi:=⟨abn,9,[.tmp 2],abm⟩
def Av:KT:=bq kN.tab [.tmp 2] [.bool]
def yA (f:Nat)(c:Int):Option AV:=mn fi0 hs0 0 Pz [.bool] f [.val (.int .u8) c]
def Tq (f:Nat)(c:Int):yA f c=cond (aL (decide (c≥97)) (decide (c≥97))&&true&&true) (cond (aL (decide (c≥97)) (decide (c≥97))&&true) (some (.val .bool (cond (c≥97) (decide (c≤122)) false))) none) none:=Φ
def Yg (f:Nat)(c:Int):yA f c=some (.val .bool (cond (c≥97) (decide (c≤122)) false)):=by simpa only[aC,b7,t?,r?,O',H_,A?,q?,f?,s?,Int.reduceLE,Int.reduceEq,Int.reduceLT,b_]using Tq f c
def Yf:bA prog GG→FiOk prog 280 (Pz):=λh=>⟨⟨f280,func280,rfl,Φ,Φ,Φ⟩,cI,af h⟩
def uw:Ent:=sp1 (.int .u8) (λ_=>true) λf=>.val .bool (oK f)
def Tr (l:bA prog GG)(h:∀(f:Int),∃g,yA g f=some (.val .bool (oK f))):ak prog 280 uw:=tQ λf _=>(let ⟨_,j⟩:=h f;bj follows (λ_ _ h=>by cases h) eA (Yf l) (ds:=[⟨_,f⟩]) j)
def GF:ak prog 280 uw:=Tr trivial (λc=>⟨0,by rw[Yg];first|rfl|(simp only[kA];rfl)⟩)
def jq (c:Int):Bool:=cond (c≥65) (decide (c≤90)) false
def EN:List (Nat×Ent):=[]
def ZL:Par:=⟨kN.tab,az EN,λ_=>look [],λ_=>look []⟩
def ZK:Code:=(f281.body).getD .skip
def NI:Fi:=⟨ZL,9,[.tmp 2],ZK⟩
def x8 (f:Nat)(c:Int):Option AV:=mn fi0 hs0 0 NI [.bool] f [.val (.int .u8) c]
def RG (f:Nat)(c:Int):x8 f c=cond (aL (decide (c≥65)) (decide (c≥65))&&true&&true) (cond (aL (decide (c≥65)) (decide (c≥65))&&true) (some (.val .bool (cond (c≥65) (decide (c≤90)) false))) none) none:=Φ
def WM (f:Nat)(c:Int):x8 f c=some (.val .bool (cond (c≥65) (decide (c≤90)) false)):=by simpa only[aC,b7,t?,r?,O',H_,A?,q?,f?,s?,Int.reduceLE,Int.reduceEq,Int.reduceLT,b_]using RG f c
def WL:bA prog EN→FiOk prog 281 (NI):=λh=>⟨⟨f281,func281,rfl,Φ,Φ,Φ⟩,cI,af h⟩
def pO:Ent:=sp1 (.int .u8) (λ_=>true) λf=>.val .bool (jq f)
def RH (l:bA prog EN)(h:∀(f:Int),∃g,x8 g f=some (.val .bool (jq f))):ak prog 281 pO:=tQ λf _=>(let ⟨_,j⟩:=h f;bj follows (λ_ _ h=>by cases h) eA (WL l) (ds:=[⟨_,f⟩]) j)
def zg:ak prog 281 pO:=RH trivial (λc=>⟨0,by rw[WM];first|rfl|(simp only[kA];rfl)⟩)
def wR (c:Int):Bool:=cond (c≥48) (decide (c≤57)) false
def Hr:List (Nat×Ent):=[]
def acC:Par:=⟨kN.tab,az Hr,λ_=>look [],λ_=>look []⟩
def acB:Code:=(f279.body).getD .skip
def QU:Fi:=⟨acC,9,[.tmp 2],acB⟩
def yG (f:Nat)(c:Int):Option AV:=mn fi0 hs0 0 QU [.bool] f [.val (.int .u8) c]
def Ue (f:Nat)(c:Int):yG f c=cond (aL (decide (c≥48)) (decide (c≥48))&&true&&true) (cond (aL (decide (c≥48)) (decide (c≥48))&&true) (some (.val .bool (cond (c≥48) (decide (c≤57)) false))) none) none:=Φ
def YW (f:Nat)(c:Int):yG f c=some (.val .bool (cond (c≥48) (decide (c≤57)) false)):=by simpa only[aC,b7,t?,r?,O',H_,A?,q?,f?,s?,Int.reduceLE,Int.reduceEq,Int.reduceLT,b_]using Ue f c
def YV:bA prog Hr→FiOk prog 279 (QU):=λh=>⟨⟨f279,func279,rfl,Φ,Φ,Φ⟩,cI,af h⟩
def Bf:Ent:=sp1 (.int .u8) (λ_=>true) λf=>.val .bool (wR f)
def Uf (l:bA prog Hr)(h:∀(f:Int),∃g,yG g f=some (.val .bool (wR f))):ak prog 279 Bf:=tQ λf _=>(let ⟨_,j⟩:=h f;bj follows (λ_ _ h=>by cases h) eA (YV l) (ds:=[⟨_,f⟩]) j)
def QT:ak prog 279 Bf:=Uf trivial (λc=>⟨0,by rw[YW];first|rfl|(simp only[kA];rfl)⟩)
def wH (m:Bool)(K:Bool→Option C)(c:Int):Option C:=ce m .bool true (oK c) λr1=>let a:=cond r1 true (jq c);nq m [2,0] (!r1) (nq m [2,0] (!cond r1 true (jq c)) (nq m [2,0] (!cond a true (wR c)) (K (cond (cond a true (wR c)) true (decide (c=95))))))
def ji (c:Int):Option Bool:=wH false some c
def ac (r:Bool):AV :=.val .bool r
def JR:Ent:=evE (.cons (.int .u8) .unit) ac (zero .bool) λx=>ji x.1
def YH:Par:=⟨kN.tab,az [(280,uw),(281,pO),(279,Bf)],λ_=>look [],λ_=>look []⟩
def YF:ak prog 367 (JR):=evX func367 (S:=YH) cI (af ⟨GF,zg,QT,apj⟩) (tys:=[.bool]) (λf x=>wH true (sm ac) x.1) (λx=>by show _=Option.map ac _;simp only[wH,ji,ss])
def rj (c:Int):Bool:=cond (cond (cond (c=9) true (c=10)) true (c=13)) true (decide (c=32))
def EI:List (Nat×Ent):=[]
def ZE:Par:=⟨kN.tab,az EI,λ_=>look [],λ_=>look []⟩
def ZD:Code:=(f276.body).getD .skip
def Nt:Fi:=⟨ZE,17,[.tmp 2],ZD⟩
def x7 (f:Nat)(c:Int):Option AV:=mn fi0 hs0 0 Nt [.bool] f [.val (.int .u8) c]
def Rw (f:Nat)(c:Int):x7 f c=cond (aL (!c=9) (!c=9)&&true&&true) (cond (aL (!c=9) (!c=9)) (cond (aL (!cond (c=9) true (c=10)) (!cond (c=9) true (c=10))&&true&&true) (cond (aL (!cond (c=9) true (c=10)) (!cond (c=9) true (c=10))) (cond (aL (!cond (cond (c=9) true (c=10)) true (c=13)) (!cond (cond (c=9) true (c=10)) true (c=13))&&true&&true) (cond (aL (!cond (cond (c=9) true (c=10)) true (c=13)) (!cond (cond (c=9) true (c=10)) true (c=13))) (some (.val .bool (cond (cond (cond (c=9) true (c=10)) true (c=13)) true (decide (c=32))))) none) none) none) none) none) none:=Φ
def WG (f:Nat)(c:Int):x7 f c=some (.val .bool (cond (cond (cond (c=9) true (c=10)) true (c=13)) true (decide (c=32)))):=by simpa only[aC,b7,t?,r?,O',H_,A?,q?,f?,s?,Int.reduceLE,Int.reduceEq,Int.reduceLT,b_]using Rw f c
def WF:bA prog EI→FiOk prog 276 (Nt):=λh=>⟨⟨f276,func276,rfl,Φ,Φ,Φ⟩,cI,af h⟩
def tD:Ent:=sp1 (.int .u8) (λ_=>true) λf=>.val .bool (rj f)
def Rx (l:bA prog EI)(h:∀(f:Int),∃g,x7 g f=some (.val .bool (rj f))):ak prog 276 tD:=tQ λf _=>(let ⟨_,j⟩:=h f;bj follows (λ_ _ h=>by cases h) eA (WF l) (ds:=[⟨_,f⟩]) j)
def EH:ak prog 276 tD:=Rx trivial (λc=>⟨0,by rw[WG];first|rfl|(simp only[kA];rfl)⟩)
def wa (c:Int):Bool:=cond (c≥32) (decide (c≤126)) false
def yj:List (Nat×Ent):=[]
def SL:Par:=⟨kN.tab,az yj,λ_=>look [],λ_=>look []⟩
def SJ:Code:=(f278.body).getD .skip
def FT:Fi:=⟨SL,9,[.tmp 2],SJ⟩
def rX (f:Nat)(c:Int):Option AV:=mn fi0 hs0 0 FT [.bool] f [.val (.int .u8) c]
def LI (f:Nat)(c:Int):rX f c=cond (aL (decide (c≥32)) (decide (c≥32))&&true&&true) (cond (aL (decide (c≥32)) (decide (c≥32))&&true) (some (.val .bool (cond (c≥32) (decide (c≤126)) false))) none) none:=Φ
def OX (f:Nat)(c:Int):rX f c=some (.val .bool (cond (c≥32) (decide (c≤126)) false)):=by simpa only[aC,b7,t?,r?,O',H_,A?,q?,f?,s?,Int.reduceLE,Int.reduceEq,Int.reduceLT,b_]using LI f c
def OW:bA prog yj→FiOk prog 278 (FT):=λh=>⟨⟨f278,func278,rfl,Φ,Φ,Φ⟩,cI,af h⟩
def rY:Ent:=sp1 (.int .u8) (λ_=>true) λf=>.val .bool (wa f)
def LJ (l:bA prog yj)(h:∀(f:Int),∃g,rX g f=some (.val .bool (wa f))):ak prog 278 rY:=tQ λf _=>(let ⟨_,j⟩:=h f;bj follows (λ_ _ h=>by cases h) eA (OW l) (ds:=[⟨_,f⟩]) j)
def FQ:ak prog 278 rY:=LJ trivial (λc=>⟨0,by rw[OX];first|rfl|(simp only[kA];rfl)⟩)
def sV (m:Bool)(K:Bool→Option C)(c:Int):Option C:=ce m .bool true (rj c) λr1=>nq m [2,0] (!r1) (K (cond r1 true (wa c)))
def ff (c:Int):Option Bool:=sV false some c
def yP:Ent:=evE (.cons (.int .u8) .unit) ac (zero .bool) λx=>ff x.1
def Uu:Par:=⟨kN.tab,az [(276,tD),(278,rY)],λ_=>look [],λ_=>look []⟩
def HV:ak prog 277 (yP):=evX func277 (S:=Uu) cI (af ⟨EH,FQ,apj⟩) (tys:=[.bool]) (λf x=>sV true (sm ac) x.1) (λx=>by show _=Option.map ac _;simp only[sV,ff,ss])
abbrev bh (C:Type):=Bool→Option C
abbrev aD (C:Type):=Option C
def ju (m:Bool)(K:Bool→Option C)(f:aD C):bh C:=λg=>cond g (K true) f
def jt (m:Bool)(K:Bool→Option C):aD C:=(K false)
def ot (m:Bool)(K:Bool→Option C)(f:bh C)(s:Str):Option C:=cond (s=[109,111,100,117,108,101]) (fz m .bool (decide (s=[109,111,100,117,108,101])) (λg=>f g)) (cond (s=[100,101,102]) (fz m .bool (decide (s=[100,101,102])) (λg=>f g)) (cond (s=[116,121,112,101]) (fz m .bool (decide (s=[116,121,112,101])) (λg=>f g)) (cond (s=[108,101,116]) (fz m .bool (decide (s=[108,101,116])) (λg=>f g)) (cond (s=[105,110]) (fz m .bool (decide (s=[105,110])) (λg=>f g)) (cond (s=[105,102]) (fz m .bool (decide (s=[105,102])) (λg=>f g)) (cond (s=[116,104,101,110]) (fz m .bool (decide (s=[116,104,101,110])) (λg=>f g)) (cond (s=[101,108,115,101]) (fz m .bool (decide (s=[101,108,115,101])) (λg=>f g)) (cond (s=[116,114,117,101]) (fz m .bool (decide (s=[116,114,117,101])) (λg=>f g)) (cond (s=[102,97,108,115,101]) (fz m .bool (decide (s=[102,97,108,115,101])) (λg=>f g)) (cond (s=[73,110,116]) (fz m .bool (decide (s=[73,110,116])) (λg=>f g)) (cond (s=[84,101,120,116]) (fz m .bool (decide (s=[84,101,120,116])) (λg=>f g)) (fz m .bool (decide (s=[66,111,111,108])) (λg=>f g)))))))))))))
def iy:aD Bool:=jt false some
def iz:bh Bool:=ju false some iy
def cP (s:Str):Option Bool:=ot false some iz s
def CZ:Ent:=evE (.cons .str .unit) ac (zero .bool) λx=>cP x.1
def tZ:MS:=⟨0,[],[(4,.dat .bool)]⟩
def bW:MS:=⟨0,[],[]⟩
def C0:Par:=⟨kN.tab,az [],λ_=>look [(15,tZ),(16,bW)],λ_=>look []⟩
def t8 (f g:Nat)(p:List Nat):Sg→KT→Option AV:=xc (bp fi0 hs0 f 0) C0 g f (sub (f320.body.getD .skip) p)
def mq (f:Nat):bh AV:=λg=>t8 f 0 [1,0,1,0,1] ⟨mkE 18 [(4,.val .bool g)],mkH 0 []⟩ (ai 0 (aQ 0 (some bW) (t8 f 0 [1,1]) Av))
def mo (f:Nat):aD AV:=t8 f 0 [1,1] ⟨mkE 18 [],mkH 0 []⟩ Av
def Fw (f:Nat):mq f=ju true (sm ac) (mo f):=Φ
def Fu (f:Nat):mo f=jt true (sm ac):=Φ
def Fv:mo FU=mp0 ac (iy):=(Fu FU).trans (by simp only[jt,iy,ss])
def Fx:mq FU=mp1 ac (iz):=(Fw FU).trans (by rw[Fv];funext _;simp only[ju,iz,ss])
def OA:ak prog 320 (CZ):=evX func320 (S:=C0) cI (af trivial) (tys:=[.bool]) (λf x=>ot true (sm ac) (mq f) x.1) (λx=>by show _=Option.map ac _;rw[Fx];simp only[ot,cP,ss])
abbrev aF (C:Type):=Str→Int→Int→Option C
def abO (f:Int):Bool:=(ji f).isSome
def abP (f:Int):Bool:=(ji f).getD (zero .bool)
def tC (m:Bool)(K:Int→Option C)(g:aF C):aF C:=λs l f=>nm m 2 (f<il s) (bd f s.length) (nm m 1 (f<il s) (abO (ixs s f)) (nq m [1] (f<il s) (cond (cond (f<il s) (abP (ixs s f)) false) (fz m tInt (w64 (f+1)) (λj=>g s l j)) (K (w64 (f-l))))))
def DG (m:Bool)(K:Int→Option C)(g:aF C)(s:Str)(f:Int):Option C:=let d:=bd f s.length;let c:=ixs s f;let b:Bool:=!f≥il s;let a:Bool:=!f≥il s&&!oK c;nm m 2 b d (nq m [2,2,2] b (nm m 2 a d (nq m [2,2] a (nm m 0 b (ii a&&true) (nq m [0] b (cond (cond (f≥il s) true (cond (!oK c) (!jq c) false)) (K 0) (g s f f)))))))
def vu:Nat→aF Int:=lp (λ_ _ _=>none) λf=>tC false some f
def jE (s:Str)(f:Int):Option Int:=DG false some (vu FU) s f
def av (r:Int):AV :=.val tInt r
def UB:Ent:=evE (.cons .str (.cons tInt .unit)) av (zero tInt) λx=>jE x.1 x.2.1
def IM:MS:=⟨0,[],[(0,.dat .str),(1,.dat tInt),(5,.dat tInt)]⟩
def UC:Par:=⟨kN.tab,az [(280,uw),(281,pO),(367,JR)],λ_=>look [],λ_=>look [(4,IM)]⟩
def KV:KT:=bq kN.tab [.tmp 4] [tInt]
def UD (f g:Nat)(p:List Nat):Sg→KT→Option AV:=xc (bp fi0 hs0 f 0) UC g f (sub (f319.body.getD .skip) p)
def vt (f n:Nat):aF AV:=λs j g=>aE 0 IM (UD f 0 [1,1,1,0,0,0]) (ai 0 (aQ 0 none (UD f 0 [1,1,1,1]) KV)) n ⟨mkE 40 [(0,.val .str s),(1,.val tInt j),(5,.val tInt g)],mkH 0 []⟩
def WD (f g:Nat):vt f (g+1)=tC true (sm av) (vt f g):=Φ
def WE:∀n,vt FU n=mp3 av (vu n):=bM Φ λf _ h=>(WD FU f).trans (by rw[h];funext _ _ _;simp only[tC,ss])
def adY:ak prog 319 (UB):=evX func319 (S:=UC) cI (af ⟨GF,zg,YF,apj⟩) (tys:=[tInt]) (λf x=>DG true (sm av) (vt f f) x.1 x.2.1) (λx=>by show _=Option.map av _;rw[WE FU];simp only[DG,jE,ss])
def vS (m:Bool)(K:Int→Option C)(f:aD C):bh C:=λg=>cond g (K 1) f
def vR (m:Bool)(K:Int→Option C):aD C:=(K 0)
def DO (m:Bool)(K:Int→Option C)(p:bh C)(s:Str)(J:Int):Option C:=let l:=w64 (J+1);let k:Bool:=ixs s J=60;let j:Bool:=ixs s J=42;let i:Bool:=ixs s J=45;let h:Bool:=ixs s J=43;let g:Bool:=ixs s J=44;let f:Bool:=ixs s J=58;let e:Bool:=ixs s J=93;let d:Bool:=ixs s J=91;let c:Bool:=ixs s J=41;let b:Bool:=ixs s J=40;let a:Bool:=w64 (J+1)<il s;ck (bd J s.length) (cond (ixs s J=61) (nq m [2] a (nm m 2 a (bd l s.length) (nq m [2,1] a (cond (cond a (ixs s l=61) false) (K 2) (K 1))))) (cond b (fz m .bool b (λr=>p r)) (cond c (fz m .bool c (λr=>p r)) (cond d (fz m .bool d (λr=>p r)) (cond e (fz m .bool e (λr=>p r)) (cond f (fz m .bool f (λr=>p r)) (cond g (fz m .bool g (λr=>p r)) (cond h (fz m .bool h (λr=>p r)) (cond i (fz m .bool i (λr=>p r)) (cond j (fz m .bool j (λr=>p r)) (cond k (fz m .bool k (λr=>p r)) (fz m .bool (decide (ixs s J=63)) (λr=>p r)))))))))))))
def rH:aD Int:=vR false some
def rJ:bh Int:=vS false some rH
def tR (s:Str)(f:Int):Option Int:=DO false some rJ s f
def UQ:Ent:=evE (.cons .str (.cons tInt .unit)) av (zero tInt) λx=>tR x.1 x.2.1
def RZ:MS:=⟨0,[],[(22,.dat .bool)]⟩
def UR:Par:=⟨kN.tab,az [],λ_=>look [(17,RZ),(18,bW)],λ_=>look []⟩
def La (f g:Nat)(p:List Nat):Sg→KT→Option AV:=xc (bp fi0 hs0 f 0) UR g f (sub (f283.body.getD .skip) p)
def yb (f:Nat):bh AV:=λg=>La f 0 [1,0,1,0,1,1,1] ⟨mkE 34 [(22,.val .bool g)],mkH 0 []⟩ (ai 0 (aQ 0 (some bW) (La f 0 [1,1]) KV))
def ya (f:Nat):aD AV:=La f 0 [1,1] ⟨mkE 34 [],mkH 0 []⟩ KV
def R3 (f:Nat):yb f=vS true (sm av) (ya f):=Φ
def R0 (f:Nat):ya f=vR true (sm av):=Φ
def R1:ya FU=mp0 av (rH):=(R0 FU).trans (by simp only[vR,rH,ss])
def R4:yb FU=mp1 av (rJ):=(R3 FU).trans (by rw[R1];funext _;simp only[vS,rJ,ss])
def aee:ak prog 283 (UQ):=evX func283 (S:=UR) cI (af trivial) (tys:=[tInt]) (λf x=>DO true (sm av) (yb f) x.1 x.2.1) (λx=>by show _=Option.map av _;rw[R4];simp only[DO,tR,ss])
abbrev Nq (C:Type):=Int→Int→Int→Str→Int→Option C
def ri (m:Bool)(K:bg.den→Option C):Nq C:=λg r1 j s f=>let a:=w64 (g+r1)+1;nq m [2,0] (!r1>24) (cond (cond (r1>24) true (j>24)) (K (0,0,3,g,())) (cl m .bool (cP ((List.take (Int.toNat (w64 (w64 a+j))) s).drop (Int.toNat (w64 a)))) (λl=>cond l (K (0,0,2,g,())) (K (w64 (w64 (r1+1)+j),f,0,0,())))))
def Sp (f:Str):Bool:=(cP f).isSome
def gA (f:Str):Bool:=(cP f).getD (zero .bool)
def ZC (g:Str)(f:Int):Bool:=(jE g f).isSome
def KW (g:Str)(f:Int):Int:=(jE g f).getD (zero tInt)
def yY (m:Bool)(K:bg.den→Option C)(s:Str)(p:Int):Option C:=let l:=jq (ixs s p);let k:=bd p s.length;let g:=Int.toNat p;cl m tInt (jE s p) λr1=>let h:=w64 (p+r1);let c:=List.take (Int.toNat h) s;let b:=w64 (p+r1)+1;let i:=w64 b;let n:=Int.toNat i;ck (0≤p&&p≤w64 (p+r1)&&w64 (p+r1)≤(s.length:Int)) (ck k (ce m .bool true l (λJ=>let e:Bool:=cond J (!gA (c.drop g)) false;let a:Bool:=cond e (w64 b<il s) false;let d:Bool:=cond a (ixs s h=46) false;nm m 1 J (Sp (c.drop g)) (nq m [2,1] J (nq m [2,2,3,1] e (nm m 2 a (bd h s.length) (nq m [2,1] a (nq m [2] d (nm m 2 d (ZC s i) (nq m [2,1] d (cond (cond d (KW s i>0) false) (cl m tInt (jE s i) (λr=>let j:=w64 b+r;let f:=List.take (Int.toNat (w64 j)) s;ck (0≤w64 b&&w64 b≤w64 j&&w64 j≤(s.length:Int)) (ck (bd 0 (f.drop n).length) (ce m .bool true (jq (ixs (f.drop n) 0)) (λT=>cond T (ri m K p r1 r s 4) (ri m K p r1 r s 3)))))) (cond (r1>24) (K (0,0,3,p,())) (cl m .bool (cP (c.drop g)) (λR=>cond R (K (r1,7,0,0,())) (ck k (ce m .bool true l (λP=>cond P (K (r1,2,0,0,())) (K (r1,1,0,0,())))))))))))))))))))
def pH (s:Str)(f:Int):Option bg.den:=yY false some s f
def fR (r:bg.den):AV :=.val bg r
def Ns:Ent:=evE (.cons .str (.cons tInt .unit)) fR (zero bg) λx=>pH x.1 x.2.1
def Nr:MS:=⟨1,[(0,[.dat tInt,.dat tInt,.dat tInt,.dat tInt])],[(1,.dat tInt),(4,.keep),(5,.dat tInt),(8,.dat tInt),(9,.dat .str),(10,.dat tInt)]⟩
def ZA:Par:=⟨kN.tab,az [(319,UB),(281,pO),(320,CZ)],λ_=>look [(10,Nr)],λ_=>look []⟩
def Zz:ak prog 282 (Ns):=evX func282 (S:=ZA) cI (af ⟨adY,zg,OA,apj⟩) (tys:=[bg]) (λf x=>yY true (sm fR) x.1 x.2.1) (λx=>by show _=Option.map fR _;simp only[yY,pH,ri,ss])
def uj (m:Bool)(K:bg.den→Option C)(g:aF C):aF C:=λs l f=>let b:=K (0,0,2,l,());let a:=bd f s.length;cond (f<il s) (ck a (cond (ixs s f=34) (K (w64 (w64 (f+1)-l),6,0,0,())) (ck a (cl m .bool (ff (ixs s f)) (λr=>cond (!r) (K (0,0,1,f,())) (ck a (ce m .bool true (wa (ixs s f)) (λp=>nm m 2 (!!p) a (nq m [2,0] (!!p) (cond (cond (!p) true (ixs s f=92)) b (fz m tInt (w64 (f+1)) (λj=>g s l j)))))))))))) b
def qk (m:Bool)(K:bg.den→Option C)(j:aF C):aF C:=λs g f=>let a:Bool:=w64 (f-g)>1;nm m 2 (f<il s) (bd f s.length) (nq m [2,1] (f<il s) (cond (cond (f<il s) (wR (ixs s f)) false) (fz m tInt (w64 (f+1)) (λl=>j s g l)) (nq m [2,1] a (cond (cond a (ixs s g=48) false) (K (0,0,2,g,())) (cond (w64 (f-g)>15) (K (0,0,3,g,())) (K (w64 (f-g),5,0,0,())))))))
def D4 (m:Bool)(K:bg.den→Option C)(j:aF C)(g:aF C)(s:Str)(f:Int):Option C:=let a:=ixs s f;ck (bd f s.length) (cl m .bool (ff a) (λr1=>cond (!r1) (K (0,0,1,f,())) (cond (ixs s f=34) (fz m tInt (w64 (f+1)) (λl=>j s f l)) (ce m .bool true (wR a) (λP=>cond P (g s f f) (ce m .bool true (oK a) (λr=>nq m [2,0] (!r) (cond (cond r true (jq a)) (cl m bg (pH s f) (λJ=>K J)) (cl m tInt (tR s f) (λp=>cond (p=0) (K (0,0,2,f,())) (K (p,8,0,0,()))))))))))))
def wj:Nat→aF bg.den:=lp (λ_ _ _=>none) λf=>uj false some f
def se:Nat→aF bg.den:=lp (λ_ _ _=>none) λf=>qk false some f
def uk (s:Str)(f:Int):Option bg.den:=D4 false some (wj FU) (se FU) s f
def Vk:Ent:=evE (.cons .str (.cons tInt .unit)) fR (zero bg) λx=>uk x.1 x.2.1
def Jz:MS:=⟨1,[(0,[.dat tInt,.dat tInt,.dat tInt,.dat tInt])],[(0,.dat .str),(1,.dat tInt),(4,.keep),(6,.dat tInt)]⟩
def Gp:MS:=⟨1,[(0,[.dat tInt,.dat tInt,.dat tInt,.dat tInt])],[(0,.dat .str),(1,.dat tInt),(4,.keep),(5,.dat (.int .u8)),(7,.dat tInt)]⟩
def Vl:Par:=⟨kN.tab,az [(277,yP),(279,Bf),(280,uw),(281,pO),(282,Ns),(283,UQ),(278,rY)],λ_=>look [],λ_=>look [(6,Jz),(17,Gp)]⟩
def Vm:KT:=bq kN.tab [.cell 4 288] [bg]
def wm (f g:Nat)(p:List Nat):Sg→KT→Option AV:=xc (bp fi0 hs0 f 0) Vl g f (sub (f227.body.getD .skip) p)
def wi (f n:Nat):aF AV:=λs j g=>aE 0 Jz (wm f 0 [1,1,0,0,1,1,1,0,0,1,0,0]) (ai 1 (aQ 0 none (wm f 0 [1,1,0,0,1,1,1,0,1]) (ai 0 (aQ 0 none (wm f 0 [1,1,1]) Vm)))) n ⟨mkE 120 [(0,.val .str s),(1,.val tInt j),(4,.box 0 0),(6,.val tInt g)],mkH 1 [(0,.box [.val tInt (0:Int),.val tInt (0:Int),.val tInt (0:Int),.val tInt (0:Int)])]⟩
def sd (f n:Nat):aF AV:=λs g j=>aE 0 Gp (wm f 0 [1,1,0,0,1,1,1,1,1,0,1,0,0,0]) (ai 4 (aQ 0 none (wm f 0 [1,1,0,0,1,1,1,1,1,0,1,1]) (ai 0 (aQ 0 none (wm f 0 [1,1,1]) Vm)))) n ⟨mkE 120 [(0,.val .str s),(1,.val tInt g),(4,.box 0 0),(5,.val (.int .u8) (ixs s g)),(7,.val tInt j)],mkH 1 [(0,.box [.val tInt (0:Int),.val tInt (0:Int),.val tInt (0:Int),.val tInt (0:Int)])]⟩
def X1 (f g:Nat):wi f (g+1)=uj true (sm fR) (wi f g):=Φ
def S9 (f g:Nat):sd f (g+1)=qk true (sm fR) (sd f g):=Φ
def X2:∀n,wi FU n=mp3 fR (wj n):=bM Φ λf _ h=>(X1 FU f).trans (by rw[h];funext _ _ _;simp only[uj,ss])
def Ta:∀n,sd FU n=mp3 fR (se n):=bM Φ λf _ h=>(S9 FU f).trans (by rw[h];funext _ _ _;simp only[qk,ss])
def ae8:ak prog 227 (Vk):=evX func227 (S:=Vl) cI (af ⟨HV,QT,GF,zg,Zz,aee,FQ,apj⟩) (tys:=[bg]) (λf x=>D4 true (sm fR) (wi f f) (sd f f) x.1 x.2.1) (λx=>by show _=Option.map fR _;rw[X2 FU,Ta FU];simp only[D4,uk,ss])
def uB (m:Bool)(K:tM.den→Option C)(j:aF C)(g:aF C):aF C:=λs l f=>let a:=bd f s.length;cond (f<il s) (ck a (ce m .bool true (rj (ixs s f)) (λr1=>cond r1 (fz m tInt (w64 (f+1)) (λp=>j s l p)) (ck a (cond (ixs s f=35) (g s l f) (K (w64 (f-l),(-1:Int),()))))))) (K (w64 (f-l),(-1:Int),()))
def uA (m:Bool)(K:tM.den→Option C)(g:aF C)(j:aF C):aF C:=λs p f=>let a:=bd f s.length;nm m 2 (f<il s) a (nq m [2,1] (f<il s) (cond (cond (f<il s) (!ixs s f=10) false) (ck a (cl m .bool (ff (ixs s f)) (λr=>cond (!r) (K (w64 (f-p),f,())) (fz m tInt (w64 (f+1)) (λl=>g s p l))))) (j s p f)))
def Ea (m:Bool)(K:tM.den→Option C)(f:aF C)(s:Str)(g:Int):Option C:=f s g g
def qC (g:aF tM.den):Nat→aF tM.den:=lp (λ_ _ _=>none) λf=>uA false some f g
def qD:Nat→aF tM.den:=lp (λ_ _ _=>none) λf=>uB false some f (qC f FU)
def uC (s:Str)(f:Int):Option tM.den:=Ea false some (qD FU) s f
def oL (r:tM.den):AV :=.tup (bo [.val tInt r.1,.val tInt r.2.1])
def Vt:Ent:=evE (.cons .str (.cons tInt .unit)) oL (zero tM) λx=>uC x.1 x.2.1
def qz:MS:=⟨0,[],[(0,.dat .str),(1,.dat tInt),(6,.dat tInt)]⟩
def Vu:Par:=⟨kN.tab,az [(276,tD),(277,yP)],λ_=>look [],λ_=>look [(2,qz),(7,qz)]⟩
def Vv:KT:=bq kN.tab [.tmp 4,.tmp 5] [tInt,tInt]
def Aw (f g:Nat)(p:List Nat):Sg→KT→Option AV:=xc (bp fi0 hs0 f 0) Vu g f (sub (f226.body.getD .skip) p)
def lC (f n:Nat):aF AV:=λs j g=>aE 0 qz (Aw f 0 [1,1,0,0,0]) (ai 0 (aQ 0 none (Aw f 0 [1,1,1]) Vv)) n ⟨mkE 51 [(0,.val .str s),(1,.val tInt j),(6,.val tInt g)],mkH 0 []⟩
def wB (f l n:Nat):aF AV:=λs j g=>aE 0 qz (Aw f 0 [1,1,0,0,0,1,0,0,1,1,1,0,0,0]) (ai 3 (ai 2 (ai 1 (kLp 0 qz (Aw f 0 [1,1,0,0,0]) (ai 0 (aQ 0 none (Aw f 0 [1,1,1]) Vv)) l)))) n ⟨mkE 51 [(0,.val .str s),(1,.val tInt j),(6,.val tInt g)],mkH 0 []⟩
def Yo (f g:Nat):lC f (g+1)=uB true (sm oL) (lC f g) (wB f g f):=Φ
def Ym (f g j:Nat):wB f g (j+1)=uA true (sm oL) (wB f g j) (lC f g):=Φ
def Yn (j:Nat){f:aF tM.den}(g:lC FU j=mp3 oL f):∀n,wB FU j n=mp3 oL (qC f n):=bM Φ λl _ h=>(Ym FU j l).trans (by rw[h,g];funext _ _ _;simp only[uA,ss])
def Yp:∀n,lC FU n=mp3 oL (qD n):=bM Φ λf _ h=>(Yo FU f).trans (by rw[h,Yn f h FU];funext _ _ _;simp only[uB,ss])
def afh:ak prog 226 (Vt):=evX func226 (S:=Vu) cI (af ⟨EH,HV,apj⟩) (tys:=[tInt,tInt]) (λf x=>Ea true (sm oL) (lC f f) x.1 x.2.1) (λx=>by show _=Option.map oL _;rw[Yp FU];simp only[Ea,uC,ss])
def AG (m:Bool)(K:Bool→Option C)(f:aD C):bh C:=λg=>cond g (K true) f
def AF (m:Bool)(K:Bool→Option C):aD C:=(K false)
def Ed (m:Bool)(K:Bool→Option C)(g:bh C)(s:Str):Option C:=cond (s=[43]) (fz m .bool (decide (s=[43])) (λf=>g f)) (cond (s=[45]) (fz m .bool (decide (s=[45])) (λf=>g f)) (cond (s=[42]) (fz m .bool (decide (s=[42])) (λf=>g f)) (cond (s=[60]) (fz m .bool (decide (s=[60])) (λf=>g f)) (fz m .bool (decide (s=[61,61])) (λf=>g f)))))
def wD:aD Bool:=AF false some
def wE:bh Bool:=AG false some wD
def uG (s:Str):Option Bool:=Ed false some wE s
def VB:Ent:=evE (.cons .str .unit) ac (zero .bool) λx=>uG x.1
def VC:Par:=⟨kN.tab,az [],λ_=>look [(7,tZ),(8,bW)],λ_=>look []⟩
def Mh (f g:Nat)(p:List Nat):Sg→KT→Option AV:=xc (bp fi0 hs0 f 0) VC g f (sub (f286.body.getD .skip) p)
def Ci (f:Nat):bh AV:=λg=>Mh f 0 [1,0,1,0,1] ⟨mkE 10 [(4,.val .bool g)],mkH 0 []⟩ (ai 0 (aQ 0 (some bW) (Mh f 0 [1,1]) Av))
def Cg (f:Nat):aD AV:=Mh f 0 [1,1] ⟨mkE 10 [],mkH 0 []⟩ Av
def Yx (f:Nat):Ci f=AG true (sm ac) (Cg f):=Φ
def Yv (f:Nat):Cg f=AF true (sm ac):=Φ
def Yw:Cg FU=mp0 ac (wD):=(Yv FU).trans (by simp only[AF,wD,ss])
def Yy:Ci FU=mp1 ac (wE):=(Yx FU).trans (by rw[Yw];funext _;simp only[AG,wE,ss])
def afq:ak prog 286 (VB):=evX func286 (S:=VC) cI (af trivial) (tys:=[.bool]) (λf x=>Ed true (sm ac) (Ci f) x.1) (λx=>by show _=Option.map ac _;rw[Yy];simp only[Ed,uG,ss])
def L7 (m:Bool)(K:Int→Option C)(x:Int)(f:Int):Option C:=cond (f<1) (K 0) (ck (!f=0) (ck (!f=0) (K (Int.tmod (w64 (Int.tmod x f+f)) f))))
def mod2_ev (x:Int)(f:Int):Option Int:=L7 false some x f
def yu:Ent:=evE (.cons tInt (.cons tInt .unit)) av (zero tInt) λx=>mod2_ev x.1 x.2.1
def ah4:Par:=⟨kN.tab,az [],λ_=>look [],λ_=>look []⟩
def mod2_x:ak prog 18 (yu):=evX func18 (S:=ah4) cI (af trivial) (tys:=[tInt]) (λf x=>L7 true (sm av) x.1 x.2.1) (λx=>by show _=Option.map av _;simp only[L7,mod2_ev,ss])
def Bl (m:Bool)(K:Int→Option C)(text:Str):Option C:=let c:=rj (ixs text 0);let b:=bd 0 text.length;let a:Bool:=!cond (text=[]) true c;nm m 1 (!text=[]) b (nq m [2,0] (!text=[]) (nm m 1 a b (nq m [2,0] a (cond (cond (cond (text=[]) true c) true (ixs text 0=35)) (K 0) (cl m bg (uk text 0) (λr1=>nq m [2,2,3,0] (!!r1.2.2.1=0) (cond (cond (!r1.2.2.1=0) true (!r1.1=il text)) (K 0) (K r1.2.1))))))))
def lK (text:Str):Option Int:=Bl false some text
def HG:Ent:=evE (.cons .str .unit) av (zero tInt) λx=>lK x.1
def acZ:Par:=⟨kN.tab,az [(276,tD),(227,Vk)],λ_=>look [],λ_=>look []⟩
def Q4:ak prog 235 (HG):=evX func235 (S:=acZ) cI (af ⟨EH,ae8,apj⟩) (tys:=[tInt]) (λf x=>Bl true (sm av) x.1) (λx=>by show _=Option.map av _;simp only[Bl,lK,ss])
abbrev eK (C:Type):=Str→Bool→Int→Option C
abbrev zh (C:Type):=Str→Int→Bool→Option C
def lZ (m:Bool)(K:Bool→Option C)(g:eK C):zh C:=λs i f=>fz m tInt (w64 (i+1)) λj=>g s f j
def jH (m:Bool)(K:Bool→Option C)(g:eK C):zh C:=λs i f=>ck (bd i s.length) (cond (ixs s i=10) (lZ m K g s i false) (lZ m K g s i f))
def lY (m:Bool)(K:Bool→Option C)(g:eK C):eK C:=λs f i=>cond (i<il s) (ck (bd i s.length) (cond (ixs s i=35) (jH m K g s i true) (jH m K g s i f))) (K (!f))
def vF (m:Bool)(K:Bool→Option C)(f:eK C)(s:Str)(g:Bool):Option C:=cl m tM (uC s 0) λr1=>nq m [2,3,0] (!r1.2.1≥0) (cond (cond (r1.2.1≥0) true (r1.1<il s)) (K false) (cond g (K true) (f s false 0)))
def oe:Nat→eK Bool:=lp (λ_ _ _=>none) λf=>lY false some f
def i6 (s:Str)(f:Bool):Option Bool:=vF false some (oe FU) s f
def IV:Ent:=evE (.cons .str (.cons .bool .unit)) ac (zero .bool) λx=>i6 x.1 x.2.1
def oa:MS:=⟨0,[],[(0,.dat .str),(7,.dat .bool),(8,.dat tInt)]⟩
def IW:Par:=⟨kN.tab,az [(226,Vt)],λ_=>look [(12,oa),(9,oa)],λ_=>look [(8,oa)]⟩
def WR:KT:=bq kN.tab [.tmp 4] [.bool]
def IX (f g:Nat)(p:List Nat):Sg→KT→Option AV:=xc (bp fi0 hs0 f 0) IW g f (sub (f237.body.getD .skip) p)
def od (g n:Nat):eK AV:=λs f i=>aE 0 oa (IX g 0 [1,1,1,1,1,0,1,0,0]) (ai 0 (aQ 0 none (IX g 0 [1,1,1,1,1,1]) WR)) n ⟨mkE 39 [(0,.val .str s),(7,.val .bool f),(8,.val tInt i)],mkH 0 []⟩
def NP (f g:Nat):od f (g+1)=lY true (sm ac) (od f g):=Φ
def NQ:∀n,od FU n=mp3 ac (oe n):=bM Φ λf _ h=>(NP FU f).trans (by rw[h];funext _ _ _;simp only[lY,jH,lZ,ss])
def WO:ak prog 237 (IV):=evX func237 (S:=IW) cI (af ⟨afh,apj⟩) (tys:=[.bool]) (λf x=>vF true (sm ac) (od f f) x.1 x.2.1) (λx=>by show _=Option.map ac _;rw[NQ FU];simp only[vF,i6,jH,lZ,ss])
abbrev xt (C:Type):=Str→Int→Int→Bool→Option C
abbrev EU (C:Type):=Str→Option C
def pg (m:Bool)(K:Bool→Option C):EU C:=λs=>K (decide (s=[]))
def dW (m:Bool)(K:Bool→Option C):xt C:=λs r1 f g=>cond g (K (decide (r1=1))) (cond (f=9) (nq m [2,0] (!r1=2) (K (cond (r1=2) true (decide (r1=4))))) (cond (f=16) (nq m [2,0] (!r1=1) (K (cond (r1=1) true (decide (r1=3))))) (cond (f=10) (K (decide (r1=5))) (cond (f=11) (K (decide (r1=6))) (cond (f=21) (cl m .bool (uG s) (λj=>K j)) (pg m K s))))))
def kM (m:Bool)(K:Bool→Option C):xt C:=λs r1 f j=>cond j (K (decide (r1=2))) (cond (f=2) (fz m .bool (decide (f=2)) (λg=>dW m K s r1 f g)) (cond (f=4) (fz m .bool (decide (f=4)) (λg=>dW m K s r1 f g)) (cond (f=12) (fz m .bool (decide (f=12)) (λg=>dW m K s r1 f g)) (fz m .bool (decide (f=20)) (λg=>dW m K s r1 f g)))))
def og (m:Bool)(K:Bool→Option C)(f:Int)(s:Str):Option C:=cl m tInt (lK s) λr1=>cond (f=1) (fz m .bool (decide (f=1)) (λg=>kM m K s r1 f g)) (fz m .bool (decide (f=3)) (λg=>kM m K s r1 f g))
def ir (f:Int)(s:Str):Option Bool:=og false some f s
def CP:Ent:=evE (.cons tInt (.cons .str .unit)) ac (zero .bool) λx=>ir x.1 x.2.1
def Ia:MS:=⟨0,[],[(1,.dat .str),(5,.dat tInt),(8,.dat tInt),(9,.dat .bool)]⟩
def EW:MS:=⟨0,[],[(1,.dat .str),(5,.dat tInt),(8,.dat tInt),(14,.dat .bool)]⟩
def EV:MS:=⟨0,[],[(1,.dat .str)]⟩
def NU:Par:=⟨kN.tab,az [(235,HG),(286,VB)],λ_=>look [(5,Ia),(10,EW),(21,EV)],λ_=>look []⟩
def NT:ak prog 273 (CP):=evX func273 (S:=NU) cI (af ⟨Q4,afq,apj⟩) (tys:=[.bool]) (λf x=>og true (sm ac) x.1 x.2.1) (λx=>by show _=Option.map ac _;simp only[og,ir,dW,pg,kM,ss])
end
abbrev aN:Ty:=.cons tInt (.cons .bool (.cons .str (.cons tInt .unit)))
abbrev aa:Ty:=(.cons tInt (.cons tInt (.cons aN .unit)))
abbrev Υ:=List aa.den
abbrev tCommit:Ty:=.cons tInt (.cons (.slice tInt) (.cons (.slice tInt) (.cons .str (.cons (.slice aa) .unit))))
abbrev Λ:=List tCommit.den
abbrev aO:Ty:=(.cons (.slice aa) .unit)
def fce (i:Nat)(f n:Int)(s:List Nat)(r:Nat):aa.den:=(Int.ofNat (Nat.add 1048576 i),f,(n,false,s.map UInt8.ofNat,(match r with|0=>0|r+1=>Int.ofNat (Nat.add 1048577 r)),()),())
def fst0:tCommit.den:=(1048594,[],[],[102,105,114,115,116],[fce 1 1 1 [] 0,fce 1 2 1 [] 0,fce 1 3 0 [77] 0,fce 1 9 0 [32] 0,fce 1 10 0 [10] 0,fce 2 1 2 [] 0,fce 2 2 0 [105,114] 1,fce 2 3 0 [102] 0,fce 2 8 0 [10] 0,fce 2 9 0 [32] 0,fce 2 13 0 [32] 0,fce 3 1 4 [] 0,fce 3 2 0 [105,114] 2,fce 3 3 0 [120] 0,fce 4 1 5 [] 0,fce 4 2 1 [] 3,fce 4 4 5 [] 0,fce 4 8 0 [32] 0,fce 5 1 4 [] 0,fce 5 2 0 [114,105] 2,fce 5 3 0 [121] 0,fce 5 8 0 [32] 0,fce 6 1 5 [] 0,fce 6 2 1 [] 5,fce 6 4 5 [] 0,fce 6 8 0 [32] 0,fce 7 1 5 [] 0,fce 7 2 1 [] 2,fce 7 4 5 [] 0,fce 7 8 0 [32] 0,fce 8 1 5 [] 0,fce 8 2 2 [] 2,fce 8 4 21 [43] 0,fce 8 8 0 [32] 0,fce 9 1 5 [] 0,fce 9 2 1 [] 8,fce 9 4 12 [] 3,fce 9 8 0 [32] 0,fce 10 1 5 [] 0,fce 10 2 2 [] 8,fce 10 4 12 [] 5,fce 10 8 0 [32] 0,fce 11 1 2 [] 0,fce 11 2 0 [114,105] 1,fce 11 3 0 [103] 0,fce 11 8 0 [10] 0,fce 11 9 0 [32] 0,fce 11 13 0 [32] 0,fce 12 1 5 [] 0,fce 12 2 1 [] 11,fce 12 4 5 [] 0,fce 12 8 0 [32] 0,fce 13 1 5 [] 0,fce 13 2 2 [] 11,fce 13 4 16 [] 2,fce 13 8 0 [32] 0,fce 14 1 5 [] 0,fce 14 2 0 [105,114] 13,fce 14 4 17 [] 3,fce 15 1 5 [] 0,fce 15 2 1 [] 14,fce 15 4 10 [49] 0,fce 16 1 5 [] 0,fce 16 2 0 [114,105] 13,fce 16 4 17 [] 5,fce 17 1 5 [] 0,fce 17 2 1 [] 16,fce 17 4 10 [50] 0,fce 17 8 0 [32] 0],())
def fst1:tCommit.den:=(1048589,[],[],[102,105,114,115,116],[fce 1 1 1 [] 0,fce 1 2 1 [] 0,fce 1 3 0 [77] 0,fce 1 9 0 [32] 0,fce 1 10 0 [32,35,32,99,10] 0,fce 2 1 2 [] 0,fce 2 2 0 [110,98] 1,fce 2 3 0 [102] 0,fce 2 8 0 [10] 0,fce 2 9 0 [32] 0,fce 2 13 0 [32] 0,fce 3 1 4 [] 0,fce 3 2 0 [110,98] 2,fce 3 3 0 [120] 0,fce 4 1 5 [] 0,fce 4 2 1 [] 3,fce 4 4 5 [] 0,fce 4 8 0 [32] 0,fce 5 1 5 [] 0,fce 5 2 1 [] 2,fce 5 4 5 [] 0,fce 5 8 0 [32] 0,fce 6 1 5 [] 0,fce 6 2 2 [] 2,fce 6 4 12 [] 3,fce 6 8 0 [32] 0,fce 7 1 1 [] 0,fce 7 2 1 [] 0,fce 7 3 0 [78] 0,fce 7 9 0 [32] 0,fce 7 10 0 [10] 0,fce 8 1 2 [] 0,fce 8 2 0 [110,98] 7,fce 8 3 0 [107] 0,fce 8 8 0 [10] 0,fce 8 9 0 [32] 0,fce 8 13 0 [32] 0,fce 9 1 5 [] 0,fce 9 2 1 [] 8,fce 9 4 5 [] 0,fce 9 8 0 [32] 0,fce 10 1 5 [] 0,fce 10 2 2 [] 8,fce 10 4 16 [] 2,fce 10 8 0 [32] 0,fce 11 1 5 [] 0,fce 11 2 0 [110,98] 10,fce 11 4 17 [] 3,fce 12 1 5 [] 0,fce 12 2 1 [] 11,fce 12 4 10 [55] 0],())
def fst2:tCommit.den:=(1048588,[],[],[102,105,114,115,116],[fce 1 1 1 [] 0,fce 1 2 1 [] 0,fce 1 3 0 [77] 0,fce 1 9 0 [32] 0,fce 2 1 3 [] 0,fce 2 2 0 [105,114] 1,fce 2 3 0 [84] 0,fce 2 8 0 [32] 0,fce 2 9 0 [32] 0,fce 2 10 0 [32] 0,fce 3 1 5 [] 0,fce 3 2 1 [] 2,fce 3 4 8 [] 0,fce 3 8 0 [32] 0,fce 4 1 5 [] 0,fce 4 2 1 [] 3,fce 4 4 5 [] 0,fce 5 1 2 [] 0,fce 5 2 0 [114,105] 1,fce 5 3 0 [104] 0,fce 5 8 0 [32] 0,fce 5 9 0 [32] 0,fce 5 13 0 [32] 0,fce 6 1 4 [] 0,fce 6 2 0 [110,98] 5,fce 6 3 0 [97] 0,fce 7 1 5 [] 0,fce 7 2 1 [] 6,fce 7 4 9 [] 2,fce 7 8 0 [32] 0,fce 8 1 5 [] 0,fce 8 2 1 [] 5,fce 8 4 9 [] 2,fce 8 8 0 [32] 0,fce 9 1 5 [] 0,fce 9 2 2 [] 5,fce 9 4 18 [] 0,fce 9 8 0 [32] 0,fce 10 1 5 [] 0,fce 10 2 0 [105,114] 9,fce 10 4 10 [49] 0,fce 11 1 5 [] 0,fce 11 2 0 [114,105] 9,fce 11 4 10 [50] 0,fce 11 8 0 [32] 0],())
def fst3:tCommit.den:=(1048588,[],[],[102,105,114,115,116],[fce 1 1 1 [] 0,fce 1 2 1 [] 0,fce 1 3 0 [77] 0,fce 1 9 0 [32] 0,fce 1 10 0 [10] 0,fce 2 1 2 [] 0,fce 2 2 0 [110,98] 1,fce 2 3 0 [102] 0,fce 2 8 0 [10] 0,fce 2 9 0 [32] 0,fce 2 13 0 [32] 0,fce 3 1 4 [] 0,fce 3 2 0 [110,98] 2,fce 3 3 0 [98] 0,fce 4 1 5 [] 0,fce 4 2 1 [] 3,fce 4 4 7 [] 0,fce 4 8 0 [32] 0,fce 5 1 5 [] 0,fce 5 2 1 [] 2,fce 5 4 5 [] 0,fce 5 8 0 [32] 0,fce 6 1 5 [] 0,fce 6 2 2 [] 2,fce 6 4 19 [] 0,fce 6 8 0 [32] 0,fce 6 9 0 [32] 0,fce 6 10 0 [32] 0,fce 7 1 5 [] 0,fce 7 2 1 [] 6,fce 7 4 12 [] 3,fce 7 8 0 [32] 0,fce 8 1 5 [] 0,fce 8 2 2 [] 6,fce 8 4 10 [49] 0,fce 8 8 0 [32] 0,fce 9 1 5 [] 0,fce 9 2 3 [] 6,fce 9 4 20 [97] 0,fce 9 8 0 [32] 0,fce 9 9 0 [32] 0,fce 9 10 0 [32] 0,fce 9 11 0 [32] 0,fce 10 1 5 [] 0,fce 10 2 1 [] 9,fce 10 4 10 [50] 0,fce 10 8 0 [32] 0,fce 11 1 5 [] 0,fce 11 2 2 [] 9,fce 11 4 12 [] 9,fce 11 8 0 [32] 0],())
def fst4:tCommit.den:=(1048578,[],[],[102,105,114,115,116],[fce 1 1 1 [] 0,fce 1 2 1 [] 0,fce 1 3 0 [77] 0,fce 1 9 0 [32] 0,fce 1 10 0 [10] 0],())
def fst5:tCommit.den:=(1048585,[],[],[102,105,114,115,116],[fce 1 1 1 [] 0,fce 1 2 1 [] 0,fce 1 3 0 [77] 0,fce 1 9 0 [32] 0,fce 1 10 0 [10] 0,fce 2 1 2 [] 0,fce 2 2 0 [105,114] 1,fce 2 3 0 [102] 0,fce 2 8 0 [10] 0,fce 2 9 0 [32] 0,fce 2 13 0 [32] 0,fce 3 1 5 [] 0,fce 3 2 1 [] 2,fce 3 4 6 [] 0,fce 3 8 0 [32] 0,fce 4 1 5 [] 0,fce 4 2 2 [] 2,fce 4 4 11 [34,97,34] 0,fce 4 8 0 [32] 0,fce 5 1 2 [] 0,fce 5 2 0 [114,105] 1,fce 5 3 0 [103] 0,fce 5 8 0 [10] 0,fce 5 9 0 [32] 0,fce 5 13 0 [32] 0,fce 6 1 5 [] 0,fce 6 2 1 [] 5,fce 6 4 6 [] 0,fce 6 8 0 [32] 0,fce 7 1 5 [] 0,fce 7 2 2 [] 5,fce 7 4 22 [] 0,fce 7 8 0 [32] 0,fce 8 1 5 [] 0,fce 8 2 1 [] 7,fce 8 4 16 [] 2],())
def fst6:tCommit.den:=(1048602,[],[],[102,105,114,115,116],[fce 1 1 1 [] 0,fce 1 2 1 [] 0,fce 1 3 0 [77] 0,fce 1 9 0 [32] 0,fce 2 1 2 [] 0,fce 2 2 0 [105,114] 1,fce 2 3 0 [102] 0,fce 2 8 0 [32] 0,fce 2 9 0 [32] 0,fce 2 13 0 [32] 0,fce 3 1 4 [] 0,fce 3 2 0 [110,98] 2,fce 3 3 0 [120] 0,fce 4 1 5 [] 0,fce 4 2 1 [] 3,fce 4 4 5 [] 0,fce 4 8 0 [32] 0,fce 5 1 5 [] 0,fce 5 2 1 [] 2,fce 5 4 5 [] 0,fce 5 8 0 [32] 0,fce 6 1 5 [] 0,fce 6 2 2 [] 2,fce 6 4 21 [42] 0,fce 6 8 0 [32] 0,fce 7 1 5 [] 0,fce 7 2 1 [] 6,fce 7 4 16 [] 2,fce 7 8 0 [32] 0,fce 8 1 5 [] 0,fce 8 2 0 [110,98] 7,fce 8 4 17 [] 3,fce 9 1 5 [] 0,fce 9 2 1 [] 8,fce 9 4 12 [] 3,fce 10 1 5 [] 0,fce 10 2 2 [] 6,fce 10 4 10 [50] 0,fce 10 8 0 [32] 0,fce 11 1 2 [] 0,fce 11 2 0 [114,105] 1,fce 11 3 0 [103] 0,fce 11 8 0 [32] 0,fce 11 9 0 [32] 0,fce 11 13 0 [32] 0,fce 12 1 4 [] 0,fce 12 2 0 [105,114] 11,fce 12 3 0 [120] 0,fce 13 1 5 [] 0,fce 13 2 1 [] 12,fce 13 4 5 [] 0,fce 13 8 0 [32] 0,fce 14 1 4 [] 0,fce 14 2 0 [114,105] 11,fce 14 3 0 [121] 0,fce 14 8 0 [32] 0,fce 15 1 5 [] 0,fce 15 2 1 [] 14,fce 15 4 5 [] 0,fce 15 8 0 [32] 0,fce 16 1 5 [] 0,fce 16 2 1 [] 11,fce 16 4 7 [] 0,fce 16 8 0 [32] 0,fce 17 1 5 [] 0,fce 17 2 2 [] 11,fce 17 4 21 [60] 0,fce 17 8 0 [32] 0,fce 18 1 5 [] 0,fce 18 2 1 [] 17,fce 18 4 16 [] 2,fce 18 8 0 [32] 0,fce 19 1 5 [] 0,fce 19 2 0 [110,98] 18,fce 19 4 17 [] 3,fce 20 1 5 [] 0,fce 20 2 1 [] 19,fce 20 4 12 [] 12,fce 21 1 5 [] 0,fce 21 2 2 [] 17,fce 21 4 16 [] 2,fce 21 8 0 [32] 0,fce 22 1 5 [] 0,fce 22 2 0 [110,98] 21,fce 22 4 17 [] 3,fce 23 1 5 [] 0,fce 23 2 1 [] 22,fce 23 4 16 [] 2,fce 24 1 5 [] 0,fce 24 2 0 [110,98] 23,fce 24 4 17 [] 3,fce 25 1 5 [] 0,fce 25 2 1 [] 24,fce 25 4 12 [] 14],())
def fst7:tCommit.den:=(1048589,[],[],[102,105,114,115,116],[fce 1 1 1 [] 0,fce 1 2 1 [] 0,fce 1 3 0 [77] 0,fce 1 9 0 [32] 0,fce 1 10 0 [10] 0,fce 2 1 2 [] 0,fce 2 2 0 [110,98] 1,fce 2 3 0 [102] 0,fce 2 8 0 [10] 0,fce 2 9 0 [32] 0,fce 2 13 0 [32] 0,fce 3 1 4 [] 0,fce 3 2 0 [110,98] 2,fce 3 3 0 [120] 0,fce 4 1 5 [] 0,fce 4 2 1 [] 3,fce 4 4 5 [] 0,fce 4 8 0 [32] 0,fce 5 1 5 [] 0,fce 5 2 1 [] 2,fce 5 4 5 [] 0,fce 5 8 0 [32] 0,fce 6 1 5 [] 0,fce 6 2 2 [] 2,fce 6 4 16 [103] 0,fce 6 8 0 [32] 0,fce 7 1 5 [] 0,fce 7 2 0 [110,98] 6,fce 7 4 17 [] 0,fce 8 1 5 [] 0,fce 8 2 1 [] 7,fce 8 4 12 [] 3,fce 9 1 1 [] 0,fce 9 2 1 [] 0,fce 9 3 0 [78] 0,fce 9 9 0 [32] 0,fce 9 10 0 [10] 0,fce 10 1 2 [] 0,fce 10 2 0 [110,98] 9,fce 10 3 0 [102] 0,fce 10 8 0 [10] 0,fce 10 9 0 [32] 0,fce 10 13 0 [32] 0,fce 11 1 5 [] 0,fce 11 2 1 [] 10,fce 11 4 5 [] 0,fce 11 8 0 [32] 0,fce 12 1 5 [] 0,fce 12 2 2 [] 10,fce 12 4 15 [] 0,fce 12 8 0 [32] 0],())
def fstL:Int→tCommit.den
 |0=>fst0
 |1=>fst1
 |2=>fst2
 |3=>fst3
 |4=>fst4
 |5=>fst5
 |6=>fst6
 |_=>fst7
def firstF (x:Int):tCommit.den:=fstL ((mod2_ev x 8).getD 0)
section
def Qs:Ent:=sp1 tInt (λ_=>true) λf=>.val tCommit (firstF f)
end
