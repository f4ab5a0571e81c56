/- The equations of the program's functions. -/
import Derived.Test.YthfdnklcgfkjoaaGreatDoorAbs1
import Derived.Test.YthfdnklcgfkjoaaGreatDoorChecked
set_option linter.all false
noncomputable section
namespace Go.Proofs.YthfdnklcgfkjoaaGreatDoor.Abs
abbrev tInt:Ty :=.int .i64
abbrev bm:Ty:=.cons tInt (.cons tInt (.cons tInt (.cons tInt .unit)))
abbrev ao:Ty:=(.cons tInt (.cons tInt .unit))
open Go Tryz
section
def kV:TabL:={
 ty:=[(3,tInt),(4,.bool),(5,(.int .u8)),(9,.str),(73,tInt),(277,bm)],
 cells:=[(3,1),(4,1),(5,1),(9,1),(73,1),(277,4)],
 offs:=[((277,0),0),((277,1),1),((277,2),2),((277,3),3)],
 one:=[],
 elem:=[] }
def cZ:TabOk prog kV.tab:=TabL.ok Φ
def follows:prog.follows .mixedOrders=true:=Φ
def fi0:FuncId→Option Fi:=λ_=>none
def aeC:∀f x,fi0 f=some x→FiOk prog f x:=λ_ _ h=>by cases h
variable{f:FuncId}{fn:Func}{S:Par}{C:Type}
def evX {R:Type}(P:prog.funcs[f]? = some fn)(C:TabOk prog S.tab)(r:SpecsOk prog S.T){a:Ty}{tys:List Ty}{o:R→AV}{z:R}{g:a.den→Option R}(T:Nat→a.den→Option AV)(p:∀y,T FU y=Option.map o (g y))(J:wm fn=true:=by kernel_rfl)(l:∀j y,eF fi0 hs0 0 (fiOf fn S) tys j (YM a y)=T j y:=by intro _ _;kernel_rfl):am prog f (evE a o z g):=aoC follows aeC bI P C r T p J l
def nwX (U:prog.funcs[f]? = some fn)(P:TabOk prog S.tab)(J:SpecsOk prog S.T){l a:Ty}{e:TypeId}{g:a.den→Option (List l.den)}(T:Nat→a.den→Option AV)(C:∀y,T FU y=Option.map (λr=>.val (.slice l) r) (g y))(R:wm fn=true:=by kernel_rfl)(p:∀j y,acP fi0 hs0 0 (fiOf fn S) l e j (YM a y)=T j y:=by intro _ _;kernel_rfl):Wp prog f (nwE l a e g):=aos follows aeC bI U P J T C R p
def gA (c:Bool)(t:Ty)(x y:t.den):cond c (some (AV.val t x)) (some (AV.val t y))=some (AV.val t (cond c x y)):=by cases c <;> rfl
def oV (c:Int):Bool:=cond (c≥97) (decide (c≤122)) false
def Hr:List (Nat×Ent):=[]
def adN:Par:=⟨kV.tab,aA Hr,λ_=>look [],λ_=>look []⟩
def adM:Code:=(f250.body).getD .skip
def Rm:Fi:=⟨adN,9,[.tmp 2],adM⟩
def AI:KT:=br kV.tab [.tmp 2] [.bool]
def yE (f:Nat)(c:Int):Option AV:=eF fi0 hs0 0 Rm [.bool] f [.val (.int .u8) c]
def Vg (f:Nat)(c:Int):yE f c=cond (az (decide (c≥97)) (decide (c≥97))&&true&&true) (cond (az (decide (c≥97)) (decide (c≥97))&&true) (some (.val .bool (cond (c≥97) (decide (c≤122)) false))) none) none:=Φ
def aai (f:Nat)(c:Int):yE f c=some (.val .bool (cond (c≥97) (decide (c≤122)) false)):=by simpa only[aD,bf,v_,t_,ξ,S',w_,x_,m_,u_,Int.reduceLE,Int.reduceEq,Int.reduceLT,I']using Vg f c
def aah:aK prog Hr→FiOk prog 250 (Rm):=λh=>⟨⟨f250,func250,rfl,Φ,Φ,Φ⟩,cZ,ah h⟩
def uw:Ent:=sp1 (.int .u8) (λ_=>true) λf=>.val .bool (oV f)
def Vh (l:aK prog Hr)(h:∀(f:Int),∃g,yE g f=some (.val .bool (oV f))):am prog 250 uw:=d7 λf _=>(let ⟨_,j⟩:=h f;aC follows (λ_ _ h=>by cases h) bI (aah l) (ds:=[⟨_,f⟩]) j)
def Hq:am prog 250 uw:=Vh trivial (λc=>⟨0,by rw[aai];first|rfl|(simp only[gA];rfl)⟩)
def jx (c:Int):Bool:=cond (c≥65) (decide (c≤90)) false
def Fk:List (Nat×Ent):=[]
def abT:Par:=⟨kV.tab,aA Fk,λ_=>look [],λ_=>look []⟩
def abS:Code:=(f251.body).getD .skip
def Pg:Fi:=⟨abT,9,[.tmp 2],abS⟩
def ya (f:Nat)(c:Int):Option AV:=eF fi0 hs0 0 Pg [.bool] f [.val (.int .u8) c]
def TH (f:Nat)(c:Int):ya f c=cond (az (decide (c≥65)) (decide (c≥65))&&true&&true) (cond (az (decide (c≥65)) (decide (c≥65))&&true) (some (.val .bool (cond (c≥65) (decide (c≤90)) false))) none) none:=Φ
def YO (f:Nat)(c:Int):ya f c=some (.val .bool (cond (c≥65) (decide (c≤90)) false)):=by simpa only[aD,bf,v_,t_,ξ,S',w_,x_,m_,u_,Int.reduceLE,Int.reduceEq,Int.reduceLT,I']using TH f c
def YN:aK prog Fk→FiOk prog 251 (Pg):=λh=>⟨⟨f251,func251,rfl,Φ,Φ,Φ⟩,cZ,ah h⟩
def pY:Ent:=sp1 (.int .u8) (λ_=>true) λf=>.val .bool (jx f)
def TI (l:aK prog Fk)(h:∀(f:Int),∃g,ya g f=some (.val .bool (jx f))):am prog 251 pY:=d7 λf _=>(let ⟨_,j⟩:=h f;aC follows (λ_ _ h=>by cases h) bI (YN l) (ds:=[⟨_,f⟩]) j)
def zg:am prog 251 pY:=TI trivial (λc=>⟨0,by rw[YO];first|rfl|(simp only[gA];rfl)⟩)
def wV (c:Int):Bool:=cond (c≥48) (decide (c≤57)) false
def Ih:List (Nat×Ent):=[]
def ae2:Par:=⟨kV.tab,aA Ih,λ_=>look [],λ_=>look []⟩
def ae1:Code:=(f249.body).getD .skip
def SL:Fi:=⟨ae2,9,[.tmp 2],ae1⟩
def yL (f:Nat)(c:Int):Option AV:=eF fi0 hs0 0 SL [.bool] f [.val (.int .u8) c]
def VT (f:Nat)(c:Int):yL f c=cond (az (decide (c≥48)) (decide (c≥48))&&true&&true) (cond (az (decide (c≥48)) (decide (c≥48))&&true) (some (.val .bool (cond (c≥48) (decide (c≤57)) false))) none) none:=Φ
def aaX (f:Nat)(c:Int):yL f c=some (.val .bool (cond (c≥48) (decide (c≤57)) false)):=by simpa only[aD,bf,v_,t_,ξ,S',w_,x_,m_,u_,Int.reduceLE,Int.reduceEq,Int.reduceLT,I']using VT f c
def aaW:aK prog Ih→FiOk prog 249 (SL):=λh=>⟨⟨f249,func249,rfl,Φ,Φ,Φ⟩,cZ,ah h⟩
def Bn:Ent:=sp1 (.int .u8) (λ_=>true) λf=>.val .bool (wV f)
def VU (l:aK prog Ih)(h:∀(f:Int),∃g,yL g f=some (.val .bool (wV f))):am prog 249 Bn:=d7 λf _=>(let ⟨_,j⟩:=h f;aC follows (λ_ _ h=>by cases h) bI (aaW l) (ds:=[⟨_,f⟩]) j)
def SK:am prog 249 Bn:=VU trivial (λc=>⟨0,by rw[aaX];first|rfl|(simp only[gA];rfl)⟩)
def wM (m:Bool)(K:Bool→Option C)(c:Int):Option C:=ce m .bool true (oV c) λr1=>let a:=cond r1 true (jx c);nq m [2,0] (!r1) (nq m [2,0] (!cond r1 true (jx c)) (nq m [2,0] (!cond a true (wV c)) (K (cond (cond a true (wV c)) true (decide (c=95))))))
def jl (c:Int):Option Bool:=wM false some c
def af (r:Bool):AV :=.val .bool r
def K9:Ent:=evE (.cons (.int .u8) .unit) af (zero .bool) λx=>jl x.1
def aaG:Par:=⟨kV.tab,aA [(250,uw),(251,pY),(249,Bn)],λ_=>look [],λ_=>look []⟩
def aaE:am prog 299 (K9):=evX func299 (S:=aaG) cZ (ah ⟨Hq,zg,SK,awN⟩) (tys:=[.bool]) (λf x=>wM true (sm af) x.1) (λx=>by show _=Option.map af _;simp only[wM,jl,ss])
def rx (c:Int):Bool:=cond (cond (cond (c=9) true (c=10)) true (c=13)) true (decide (c=32))
def Fh:List (Nat×Ent):=[]
def abP:Par:=⟨kV.tab,aA Fh,λ_=>look [],λ_=>look []⟩
def abO:Code:=(f213.body).getD .skip
def O5:Fi:=⟨abP,17,[.tmp 2],abO⟩
def x8 (f:Nat)(c:Int):Option AV:=eF fi0 hs0 0 O5 [.bool] f [.val (.int .u8) c]
def TC (f:Nat)(c:Int):x8 f c=cond (az (!c=9) (!c=9)&&true&&true) (cond (az (!c=9) (!c=9)) (cond (az (!cond (c=9) true (c=10)) (!cond (c=9) true (c=10))&&true&&true) (cond (az (!cond (c=9) true (c=10)) (!cond (c=9) true (c=10))) (cond (az (!cond (cond (c=9) true (c=10)) true (c=13)) (!cond (cond (c=9) true (c=10)) true (c=13))&&true&&true) (cond (az (!cond (cond (c=9) true (c=10)) true (c=13)) (!cond (cond (c=9) true (c=10)) true (c=13))) (some (.val .bool (cond (cond (cond (c=9) true (c=10)) true (c=13)) true (decide (c=32))))) none) none) none) none) none) none:=Φ
def YJ (f:Nat)(c:Int):x8 f c=some (.val .bool (cond (cond (cond (c=9) true (c=10)) true (c=13)) true (decide (c=32)))):=by simpa only[aD,bf,v_,t_,ξ,S',w_,x_,m_,u_,Int.reduceLE,Int.reduceEq,Int.reduceLT,I']using TC f c
def YI:aK prog Fh→FiOk prog 213 (O5):=λh=>⟨⟨f213,func213,rfl,Φ,Φ,Φ⟩,cZ,ah h⟩
def th:Ent:=sp1 (.int .u8) (λ_=>true) λf=>.val .bool (rx f)
def TD (l:aK prog Fh)(h:∀(f:Int),∃g,x8 g f=some (.val .bool (rx f))):am prog 213 th:=d7 λf _=>(let ⟨_,j⟩:=h f;aC follows (λ_ _ h=>by cases h) bI (YI l) (ds:=[⟨_,f⟩]) j)
def Fg:am prog 213 th:=TD trivial (λc=>⟨0,by rw[YJ];first|rfl|(simp only[gA];rfl)⟩)
def wj (c:Int):Bool:=cond (c≥32) (decide (c≤126)) false
def yv:List (Nat×Ent):=[]
def UG:Par:=⟨kV.tab,aA yv,λ_=>look [],λ_=>look []⟩
def UF:Code:=(f248.body).getD .skip
def Gw:Fi:=⟨UG,9,[.tmp 2],UF⟩
def rY (f:Nat)(c:Int):Option AV:=eF fi0 hs0 0 Gw [.bool] f [.val (.int .u8) c]
def M8 (f:Nat)(c:Int):rY f c=cond (az (decide (c≥32)) (decide (c≥32))&&true&&true) (cond (az (decide (c≥32)) (decide (c≥32))&&true) (some (.val .bool (cond (c≥32) (decide (c≤126)) false))) none) none:=Φ
def QK (f:Nat)(c:Int):rY f c=some (.val .bool (cond (c≥32) (decide (c≤126)) false)):=by simpa only[aD,bf,v_,t_,ξ,S',w_,x_,m_,u_,Int.reduceLE,Int.reduceEq,Int.reduceLT,I']using M8 f c
def QJ:aK prog yv→FiOk prog 248 (Gw):=λh=>⟨⟨f248,func248,rfl,Φ,Φ,Φ⟩,cZ,ah h⟩
def rZ:Ent:=sp1 (.int .u8) (λ_=>true) λf=>.val .bool (wj f)
def M9 (l:aK prog yv)(h:∀(f:Int),∃g,rY g f=some (.val .bool (wj f))):am prog 248 rZ:=d7 λf _=>(let ⟨_,j⟩:=h f;aC follows (λ_ _ h=>by cases h) bI (QJ l) (ds:=[⟨_,f⟩]) j)
def Gv:am prog 248 rZ:=M9 trivial (λc=>⟨0,by rw[QK];first|rfl|(simp only[gA];rfl)⟩)
def sO (m:Bool)(K:Bool→Option C)(c:Int):Option C:=ce m .bool true (rx c) λr1=>nq m [2,0] (!r1) (K (cond r1 true (wj c)))
def fM (c:Int):Option Bool:=sO false some c
def yW:Ent:=evE (.cons (.int .u8) .unit) af (zero .bool) λx=>fM x.1
def Wl:Par:=⟨kV.tab,aA [(213,th),(248,rZ)],λ_=>look [],λ_=>look []⟩
def IR:am prog 247 (yW):=evX func247 (S:=Wl) cZ (ah ⟨Fg,Gv,awN⟩) (tys:=[.bool]) (λf x=>sO true (sm af) x.1) (λx=>by show _=Option.map af _;simp only[sO,fM,ss])
abbrev bu (C:Type):=Bool→Option C
abbrev aT (C:Type):=Option C
def jB (m:Bool)(K:Bool→Option C)(f:aT C):bu C:=λg=>cond g (K true) f
def jA (m:Bool)(K:Bool→Option C):aT C:=(K false)
def oL (m:Bool)(K:Bool→Option C)(f:bu C)(s:Str):Option C:=cond (s=[109,111,100,117,108,101]) (fz m .bool (decide (s=[109,111,100,117,108,101])) (λg=>f g)) (cond (s=[100,101,102]) (fz m .bool (decide (s=[100,101,102])) (λg=>f g)) (cond (s=[116,121,112,101]) (fz m .bool (decide (s=[116,121,112,101])) (λg=>f g)) (cond (s=[108,101,116]) (fz m .bool (decide (s=[108,101,116])) (λg=>f g)) (cond (s=[105,110]) (fz m .bool (decide (s=[105,110])) (λg=>f g)) (cond (s=[105,102]) (fz m .bool (decide (s=[105,102])) (λg=>f g)) (cond (s=[116,104,101,110]) (fz m .bool (decide (s=[116,104,101,110])) (λg=>f g)) (cond (s=[101,108,115,101]) (fz m .bool (decide (s=[101,108,115,101])) (λg=>f g)) (cond (s=[116,114,117,101]) (fz m .bool (decide (s=[116,114,117,101])) (λg=>f g)) (cond (s=[102,97,108,115,101]) (fz m .bool (decide (s=[102,97,108,115,101])) (λg=>f g)) (cond (s=[73,110,116]) (fz m .bool (decide (s=[73,110,116])) (λg=>f g)) (cond (s=[84,101,120,116]) (fz m .bool (decide (s=[84,101,120,116])) (λg=>f g)) (fz m .bool (decide (s=[66,111,111,108])) (λg=>f g)))))))))))))
def iD:aT Bool:=jA false some
def iE:bu Bool:=jB false some iD
def dq (s:Str):Option Bool:=oL false some iE s
def Dv:Ent:=evE (.cons .str .unit) af (zero .bool) λx=>dq x.1
def tV:MS:=⟨0,[],[(4,.dat .bool)]⟩
def cw:MS:=⟨0,[],[]⟩
def Dw:Par:=⟨kV.tab,aA [],λ_=>look [(15,tV),(16,cw)],λ_=>look []⟩
def h10 (S:Par)(f:Func)(g j:Nat)(p:List Nat):Sg→KT→Option AV:=xc (aL fi0 hs0 g 0) S j g (sub (f.body.getD .skip) p)
def tX:=h10 Dw f282
def mI (f:Nat):bu AV:=λg=>tX f 0 [1,0,1,0,1] ⟨mkE 18 [(4,.val .bool g)],mkH 0 []⟩ (aj 0 (aP 0 (some cw) (tX f 0 [1,1]) AI))
def mH (f:Nat):aT AV:=tX f 0 [1,1] ⟨mkE 18 [],mkH 0 []⟩ AI
def F8 (f:Nat):mI f=jB true (sm af) (mH f):=Φ
def F6 (f:Nat):mH f=jA true (sm af):=Φ
def F7:mH FU=mp0 af (iD):=(F6 FU).trans (by simp only[jA,iD,ss])
def F9:mI FU=mp1 af (iE):=(F8 FU).trans (by rw[F7];funext _;simp only[jB,iE,ss])
def Qg:am prog 282 (Dv):=evX func282 (S:=Dw) cZ (ah trivial) (tys:=[.bool]) (λf x=>oL true (sm af) (mI f) x.1) (λx=>by show _=Option.map af _;rw[F9];simp only[oL,dq,ss])
abbrev aU (C:Type):=Str→Int→Int→Option C
def ad8 (f:Int):Bool:=(jl f).isSome
def ad9 (f:Int):Bool:=(jl f).getD (zero .bool)
def tg (m:Bool)(K:Int→Option C)(g:aU C):aU C:=λs l f=>nm m 2 (f<il s) (bd f s.length) (nm m 1 (f<il s) (ad8 (ixs s f)) (nq m [1] (f<il s) (cond (cond (f<il s) (ad9 (ixs s f)) false) (fz m tInt (w64 (f+1)) (λj=>g s l j)) (K (w64 (f-l))))))
def Ee (m:Bool)(K:Int→Option C)(g:aU C)(s:Str)(f:Int):Option C:=let d:=bd f s.length;let c:=ixs s f;let b:Bool:=!f≥il s;let a:Bool:=!f≥il s&&!oV c;nm m 2 b d (nq m [2,2,2] b (nm m 2 a d (nq m [2,2] a (nm m 0 b (ii a&&true) (nq m [0] b (cond (cond (f≥il s) true (cond (!oV c) (!jx c) false)) (K 0) (g s f f)))))))
def vt:Nat→aU Int:=lp (λ_ _ _=>none) λf=>tg false some f
def jK (s:Str)(f:Int):Option Int:=Ee false some (vt FU) s f
def aO (r:Int):AV :=.val tInt r
def Wu:Ent:=evE (.cons .str (.cons tInt .unit)) aO (zero tInt) λx=>jK x.1 x.2.1
def JL:MS:=⟨0,[],[(0,.dat .str),(1,.dat tInt),(5,.dat tInt)]⟩
def Wv:Par:=⟨kV.tab,aA [(250,uw),(251,pY),(299,K9)],λ_=>look [],λ_=>look [(4,JL)]⟩
def Mk:KT:=br kV.tab [.tmp 4] [tInt]
def Ww:=h10 Wv f281
def vr (f n:Nat):aU AV:=λs j g=>aI 0 JL (Ww f 0 [1,1,1,0,0,0]) (aj 0 (aP 0 none (Ww f 0 [1,1,1,1]) Mk)) n ⟨mkE 40 [(0,.val .str s),(1,.val tInt j),(5,.val tInt g)],mkH 0 []⟩
def YG (f g:Nat):vr f (g+1)=tg true (sm aO) (vr f g):=Φ
def YH:∀n,vr FU n=mp3 aO (vt n):=cA Φ λf _ h=>(YG FU f).trans (by rw[h];funext _ _ _;simp only[tg,ss])
def agF:am prog 281 (Wu):=evX func281 (S:=Wv) cZ (ah ⟨Hq,zg,aaE,awN⟩) (tys:=[tInt]) (λf x=>Ee true (sm aO) (vr f f) x.1 x.2.1) (λx=>by show _=Option.map aO _;rw[YH FU];simp only[Ee,jK,ss])
def vT (m:Bool)(K:Int→Option C)(f:aT C):bu C:=λg=>cond g (K 1) f
def vS (m:Bool)(K:Int→Option C):aT C:=(K 0)
def Ej (m:Bool)(K:Int→Option C)(p:bu C)(s:Str)(J:Int):Option C:=let l:=w64 (J+1);let k:Bool:=ixs s J=60;let j:Bool:=ixs s J=42;let i:Bool:=ixs s J=45;let h:Bool:=ixs s J=43;let g:Bool:=ixs s J=44;let f:Bool:=ixs s J=58;let e:Bool:=ixs s J=93;let d:Bool:=ixs s J=91;let c:Bool:=ixs s J=41;let b:Bool:=ixs s J=40;let a:Bool:=w64 (J+1)<il s;ck (bd J s.length) (cond (ixs s J=61) (nq m [2] a (nm m 2 a (bd l s.length) (nq m [2,1] a (cond (cond a (ixs s l=61) false) (K 2) (K 1))))) (cond b (fz m .bool b (λr=>p r)) (cond c (fz m .bool c (λr=>p r)) (cond d (fz m .bool d (λr=>p r)) (cond e (fz m .bool e (λr=>p r)) (cond f (fz m .bool f (λr=>p r)) (cond g (fz m .bool g (λr=>p r)) (cond h (fz m .bool h (λr=>p r)) (cond i (fz m .bool i (λr=>p r)) (cond j (fz m .bool j (λr=>p r)) (cond k (fz m .bool k (λr=>p r)) (fz m .bool (decide (ixs s J=63)) (λr=>p r)))))))))))))
def rK:aT Int:=vS false some
def rL:bu Int:=vT false some rK
def tI (s:Str)(f:Int):Option Int:=Ej false some rL s f
def WN:Ent:=evE (.cons .str (.cons tInt .unit)) aO (zero tInt) λx=>tI x.1 x.2.1
def T4:MS:=⟨0,[],[(22,.dat .bool)]⟩
def WO:Par:=⟨kV.tab,aA [],λ_=>look [(17,T4),(18,cw)],λ_=>look []⟩
def MD:=h10 WO f253
def yj (f:Nat):bu AV:=λg=>MD f 0 [1,0,1,0,1,1,1] ⟨mkE 34 [(22,.val .bool g)],mkH 0 []⟩ (aj 0 (aP 0 (some cw) (MD f 0 [1,1]) Mk))
def yi (f:Nat):aT AV:=MD f 0 [1,1] ⟨mkE 34 [],mkH 0 []⟩ Mk
def T7 (f:Nat):yj f=vT true (sm aO) (yi f):=Φ
def T5 (f:Nat):yi f=vS true (sm aO):=Φ
def T6:yi FU=mp0 aO (rK):=(T5 FU).trans (by simp only[vS,rK,ss])
def T8:yj FU=mp1 aO (rL):=(T7 FU).trans (by rw[T6];funext _;simp only[vT,rL,ss])
def ag1:am prog 253 (WN):=evX func253 (S:=WO) cZ (ah trivial) (tys:=[tInt]) (λf x=>Ej true (sm aO) (yj f) x.1 x.2.1) (λx=>by show _=Option.map aO _;rw[T8];simp only[Ej,tI,ss])
abbrev O2 (C:Type):=Int→Int→Int→Str→Int→Option C
def ru (m:Bool)(K:bm.den→Option C):O2 C:=λg r1 r3 s f=>let a:=w64 (g+r1)+1;nq m [2,0] (!r1>24) (cond (cond (r1>24) true (r3>24)) (K (0,0,3,g,())) (cl m .bool (dq ((List.take (Int.toNat (w64 (w64 a+r3))) s).drop (Int.toNat (w64 a)))) (λr7=>cond r7 (K (0,0,2,g,())) (K (w64 (w64 (r1+1)+r3),f,0,0,())))))
def Uq (f:Str):Bool:=(dq f).isSome
def gO (f:Str):Bool:=(dq f).getD (zero .bool)
def abN (g:Str)(f:Int):Bool:=(jK g f).isSome
def Ml (g:Str)(f:Int):Int:=(jK g f).getD (zero tInt)
def y9 (m:Bool)(K:bm.den→Option C)(s:Str)(p:Int):Option C:=let l:=jx (ixs s p);let k:=bd p s.length;let g:=Int.toNat p;cl m tInt (jK s p) λr1=>let h:=w64 (p+r1);let c:=List.take (Int.toNat h) s;let b:=w64 (p+r1)+1;let i:=w64 b;let n:=Int.toNat i;ck (0≤p&&p≤w64 (p+r1)&&w64 (p+r1)≤(s.length:Int)) (ck k (ce m .bool true l (λr2=>let e:Bool:=cond r2 (!gO (c.drop g)) false;let a:Bool:=cond e (w64 b<il s) false;let d:Bool:=cond a (ixs s h=46) false;nm m 1 r2 (Uq (c.drop g)) (nq m [2,1] r2 (nq m [2,2,3,1] e (nm m 2 a (bd h s.length) (nq m [2,1] a (nq m [2] d (nm m 2 d (abN s i) (nq m [2,1] d (cond (cond d (Ml s i>0) false) (cl m tInt (jK s i) (λr3=>let j:=w64 b+r3;let f:=List.take (Int.toNat (w64 j)) s;ck (0≤w64 b&&w64 b≤w64 j&&w64 j≤(s.length:Int)) (ck (bd 0 (f.drop n).length) (ce m .bool true (jx (ixs (f.drop n) 0)) (λr4=>cond r4 (ru m K p r1 r3 s 4) (ru m K p r1 r3 s 3)))))) (cond (r1>24) (K (0,0,3,p,())) (cl m .bool (dq (c.drop g)) (λr5=>cond r5 (K (r1,7,0,0,())) (ck k (ce m .bool true l (λr6=>cond r6 (K (r1,2,0,0,())) (K (r1,1,0,0,())))))))))))))))))))
def pU (s:Str)(f:Int):Option bm.den:=y9 false some s f
def gj (r:bm.den):AV :=.val bm r
def O4:Ent:=evE (.cons .str (.cons tInt .unit)) gj (zero bm) λx=>pU x.1 x.2.1
def O3:MS:=⟨1,[(0,[.dat tInt,.dat tInt,.dat tInt,.dat tInt])],[(1,.dat tInt),(4,.keep),(5,.dat tInt),(8,.dat tInt),(9,.dat .str),(10,.dat tInt)]⟩
def abL:Par:=⟨kV.tab,aA [(281,Wu),(251,pY),(282,Dv)],λ_=>look [(10,O3)],λ_=>look []⟩
def abK:am prog 252 (O4):=evX func252 (S:=abL) cZ (ah ⟨agF,zg,Qg,awN⟩) (tys:=[bm]) (λf x=>y9 true (sm gj) x.1 x.2.1) (λx=>by show _=Option.map gj _;simp only[y9,pU,ru,ss])
def uk (m:Bool)(K:bm.den→Option C)(g:aU C):aU C:=λs l f=>let b:=K (0,0,2,l,());let a:=bd f s.length;cond (f<il s) (ck a (cond (ixs s f=34) (K (w64 (w64 (f+1)-l),6,0,0,())) (ck a (cl m .bool (fM (ixs s f)) (λr6=>cond (!r6) (K (0,0,1,f,())) (ck a (ce m .bool true (wj (ixs s f)) (λr7=>nm m 2 (!!r7) a (nq m [2,0] (!!r7) (cond (cond (!r7) true (ixs s f=92)) b (fz m tInt (w64 (f+1)) (λj=>g s l j)))))))))))) b
def qv (m:Bool)(K:bm.den→Option C)(j:aU C):aU C:=λs g f=>let a:Bool:=w64 (f-g)>1;nm m 2 (f<il s) (bd f s.length) (nq m [2,1] (f<il s) (cond (cond (f<il s) (wV (ixs s f)) false) (fz m tInt (w64 (f+1)) (λl=>j s g l)) (nq m [2,1] a (cond (cond a (ixs s g=48) false) (K (0,0,2,g,())) (cond (w64 (f-g)>15) (K (0,0,3,g,())) (K (w64 (f-g),5,0,0,())))))))
def EA (m:Bool)(K:bm.den→Option C)(j:aU C)(g:aU C)(s:Str)(f:Int):Option C:=let a:=ixs s f;ck (bd f s.length) (cl m .bool (fM a) (λr1=>cond (!r1) (K (0,0,1,f,())) (cond (ixs s f=34) (fz m tInt (w64 (f+1)) (λl=>j s f l)) (ce m .bool true (wV a) (λr2=>cond r2 (g s f f) (ce m .bool true (oV a) (λr3=>nq m [2,0] (!r3) (cond (cond r3 true (jx a)) (cl m bm (pU s f) (λr4=>K r4)) (cl m tInt (tI s f) (λr5=>cond (r5=0) (K (0,0,2,f,())) (K (r5,8,0,0,()))))))))))))
def ww:Nat→aU bm.den:=lp (λ_ _ _=>none) λf=>uk false some f
def sg:Nat→aU bm.den:=lp (λ_ _ _=>none) λf=>qv false some f
def ul (s:Str)(f:Int):Option bm.den:=EA false some (ww FU) (sg FU) s f
def Xv:Ent:=evE (.cons .str (.cons tInt .unit)) gj (zero bm) λx=>ul x.1 x.2.1
def KR:MS:=⟨1,[(0,[.dat tInt,.dat tInt,.dat tInt,.dat tInt])],[(0,.dat .str),(1,.dat tInt),(4,.keep),(6,.dat tInt)]⟩
def Hb:MS:=⟨1,[(0,[.dat tInt,.dat tInt,.dat tInt,.dat tInt])],[(0,.dat .str),(1,.dat tInt),(4,.keep),(5,.dat (.int .u8)),(7,.dat tInt)]⟩
def Xw:Par:=⟨kV.tab,aA [(247,yW),(249,Bn),(250,uw),(251,pY),(252,O4),(253,WN),(248,rZ)],λ_=>look [],λ_=>look [(6,KR),(17,Hb)]⟩
def Xx:KT:=br kV.tab [.cell 4 277] [bm]
def wz:=h10 Xw f207
def wv (f n:Nat):aU AV:=λs j g=>aI 0 KR (wz f 0 [1,1,0,0,1,1,1,0,0,1,0,0]) (aj 1 (aP 0 none (wz f 0 [1,1,0,0,1,1,1,0,1]) (aj 0 (aP 0 none (wz f 0 [1,1,1]) Xx)))) n ⟨mkE 120 [(0,.val .str s),(1,.val tInt j),(4,.box 0 0),(6,.val tInt g)],mkH 1 [(0,.box [.val tInt (0:Int),.val tInt (0:Int),.val tInt (0:Int),.val tInt (0:Int)])]⟩
def sf (f n:Nat):aU AV:=λs g j=>aI 0 Hb (wz f 0 [1,1,0,0,1,1,1,1,1,0,1,0,0,0]) (aj 4 (aP 0 none (wz f 0 [1,1,0,0,1,1,1,1,1,0,1,1]) (aj 0 (aP 0 none (wz f 0 [1,1,1]) Xx)))) n ⟨mkE 120 [(0,.val .str s),(1,.val tInt g),(4,.box 0 0),(5,.val (.int .u8) (ixs s g)),(7,.val tInt j)],mkH 1 [(0,.box [.val tInt (0:Int),.val tInt (0:Int),.val tInt (0:Int),.val tInt (0:Int)])]⟩
def Z1 (f g:Nat):wv f (g+1)=uk true (sm gj) (wv f g):=Φ
def U6 (f g:Nat):sf f (g+1)=qv true (sm gj) (sf f g):=Φ
def Z2:∀n,wv FU n=mp3 gj (ww n):=cA Φ λf _ h=>(Z1 FU f).trans (by rw[h];funext _ _ _;simp only[uk,ss])
def U7:∀n,sf FU n=mp3 gj (sg n):=cA Φ λf _ h=>(U6 FU f).trans (by rw[h];funext _ _ _;simp only[qv,ss])
def ajs:am prog 207 (Xv):=evX func207 (S:=Xw) cZ (ah ⟨IR,SK,Hq,zg,abK,ag1,Gv,awN⟩) (tys:=[bm]) (λf x=>EA true (sm gj) (wv f f) (sf f f) x.1 x.2.1) (λx=>by show _=Option.map gj _;rw[Z2 FU,U7 FU];simp only[EA,ul,ss])
def uA (m:Bool)(K:ao.den→Option C)(j:aU C)(g:aU C):aU C:=λs l f=>let a:=bd f s.length;cond (f<il s) (ck a (ce m .bool true (rx (ixs s f)) (λr1=>cond r1 (fz m tInt (w64 (f+1)) (λp=>j s l p)) (ck a (cond (ixs s f=35) (g s l f) (K (w64 (f-l),(-1:Int),()))))))) (K (w64 (f-l),(-1:Int),()))
def uz (m:Bool)(K:ao.den→Option C)(g:aU C)(j:aU C):aU C:=λs p f=>let a:=bd f s.length;nm m 2 (f<il s) a (nq m [2,1] (f<il s) (cond (cond (f<il s) (!ixs s f=10) false) (ck a (cl m .bool (fM (ixs s f)) (λr2=>cond (!r2) (K (w64 (f-p),f,())) (fz m tInt (w64 (f+1)) (λl=>g s p l))))) (j s p f)))
def EC (m:Bool)(K:ao.den→Option C)(f:aU C)(s:Str)(g:Int):Option C:=f s g g
def qJ (g:aU ao.den):Nat→aU ao.den:=lp (λ_ _ _=>none) λf=>uz false some f g
def qL:Nat→aU ao.den:=lp (λ_ _ _=>none) λf=>uA false some f (qJ f FU)
def uB (s:Str)(f:Int):Option ao.den:=EC false some (qL FU) s f
def oW (r:ao.den):AV :=.tup (aF [.val tInt r.1,.val tInt r.2.1])
def XG:Ent:=evE (.cons .str (.cons tInt .unit)) oW (zero ao) λx=>uB x.1 x.2.1
def qI:MS:=⟨0,[],[(0,.dat .str),(1,.dat tInt),(6,.dat tInt)]⟩
def XH:Par:=⟨kV.tab,aA [(213,th),(247,yW)],λ_=>look [],λ_=>look [(2,qI),(7,qI)]⟩
def XI:KT:=br kV.tab [.tmp 4,.tmp 5] [tInt,tInt]
def AJ:=h10 XH f206
def lK (f n:Nat):aU AV:=λs j g=>aI 0 qI (AJ f 0 [1,1,0,0,0]) (aj 0 (aP 0 none (AJ f 0 [1,1,1]) XI)) n ⟨mkE 51 [(0,.val .str s),(1,.val tInt j),(6,.val tInt g)],mkH 0 []⟩
def wE (f l n:Nat):aU AV:=λs j g=>aI 0 qI (AJ f 0 [1,1,0,0,0,1,0,0,1,1,1,0,0,0]) (aj 3 (aj 2 (aj 1 (kLp 0 qI (AJ f 0 [1,1,0,0,0]) (aj 0 (aP 0 none (AJ f 0 [1,1,1]) XI)) l)))) n ⟨mkE 51 [(0,.val .str s),(1,.val tInt j),(6,.val tInt g)],mkH 0 []⟩
def aan (f g:Nat):lK f (g+1)=uA true (sm oW) (lK f g) (wE f g f):=Φ
def aal (f g j:Nat):wE f g (j+1)=uz true (sm oW) (wE f g j) (lK f g):=Φ
def aam (j:Nat){f:aU ao.den}(g:lK FU j=mp3 oW f):∀n,wE FU j n=mp3 oW (qJ f n):=cA Φ λl _ h=>(aal FU j l).trans (by rw[h,g];funext _ _ _;simp only[uz,ss])
def aao:∀n,lK FU n=mp3 oW (qL n):=cA Φ λf _ h=>(aan FU f).trans (by rw[h,aam f h FU];funext _ _ _;simp only[uA,ss])
def ajy:am prog 206 (XG):=evX func206 (S:=XH) cZ (ah ⟨Fg,IR,awN⟩) (tys:=[tInt,tInt]) (λf x=>EC true (sm oW) (lK f f) x.1 x.2.1) (λx=>by show _=Option.map oW _;rw[aao FU];simp only[EC,uB,ss])
def AO (m:Bool)(K:Bool→Option C)(f:aT C):bu C:=λg=>cond g (K true) f
def AN (m:Bool)(K:Bool→Option C):aT C:=(K false)
def EG (m:Bool)(K:Bool→Option C)(g:bu C)(s:Str):Option C:=cond (s=[43]) (fz m .bool (decide (s=[43])) (λf=>g f)) (cond (s=[45]) (fz m .bool (decide (s=[45])) (λf=>g f)) (cond (s=[42]) (fz m .bool (decide (s=[42])) (λf=>g f)) (cond (s=[60]) (fz m .bool (decide (s=[60])) (λf=>g f)) (fz m .bool (decide (s=[61,61])) (λf=>g f)))))
def wJ:aT Bool:=AN false some
def wK:bu Bool:=AO false some wJ
def uH (s:Str):Option Bool:=EG false some wK s
def XP:Ent:=evE (.cons .str .unit) af (zero .bool) λx=>uH x.1
def XQ:Par:=⟨kV.tab,aA [],λ_=>look [(7,tV),(8,cw)],λ_=>look []⟩
def NN:=h10 XQ f256
def Cu (f:Nat):bu AV:=λg=>NN f 0 [1,0,1,0,1] ⟨mkE 10 [(4,.val .bool g)],mkH 0 []⟩ (aj 0 (aP 0 (some cw) (NN f 0 [1,1]) AI))
def Ct (f:Nat):aT AV:=NN f 0 [1,1] ⟨mkE 10 [],mkH 0 []⟩ AI
def aaw (f:Nat):Cu f=AO true (sm af) (Ct f):=Φ
def aau (f:Nat):Ct f=AN true (sm af):=Φ
def aav:Ct FU=mp0 af (wJ):=(aau FU).trans (by simp only[AN,wJ,ss])
def aax:Cu FU=mp1 af (wK):=(aaw FU).trans (by rw[aav];funext _;simp only[AO,wK,ss])
def ajH:am prog 256 (XP):=evX func256 (S:=XQ) cZ (ah trivial) (tys:=[.bool]) (λf x=>EG true (sm af) (Cu f) x.1) (λx=>by show _=Option.map af _;rw[aax];simp only[EG,uH,ss])
def NG (m:Bool)(K:Int→Option C)(x:Int)(f:Int):Option C:=cond (f<1) (K 0) (ck (!f=0) (ck (!f=0) (K (Int.tmod (w64 (Int.tmod x f+f)) f))))
def mod2_ev (x:Int)(f:Int):Option Int:=NG false some x f
def Hl:Ent:=evE (.cons tInt (.cons tInt .unit)) aO (zero tInt) λx=>mod2_ev x.1 x.2.1
def amN:Par:=⟨kV.tab,aA [],λ_=>look [],λ_=>look []⟩
def mod2_x:am prog 18 (Hl):=evX func18 (S:=amN) cZ (ah trivial) (tys:=[tInt]) (λf x=>NG true (sm aO) x.1 x.2.1) (λx=>by show _=Option.map aO _;simp only[NG,mod2_ev,ss])
def Bv (m:Bool)(K:Int→Option C)(text:Str):Option C:=let c:=rx (ixs text 0);let b:=bd 0 text.length;let a:Bool:=!cond (text=[]) true c;nm m 1 (!text=[]) b (nq m [2,0] (!text=[]) (nm m 1 a b (nq m [2,0] a (cond (cond (cond (text=[]) true c) true (ixs text 0=35)) (K 0) (cl m bm (ul text 0) (λr1=>nq m [2,2,3,0] (!!r1.2.2.1=0) (cond (cond (!r1.2.2.1=0) true (!r1.1=il text)) (K 0) (K r1.2.1))))))))
def lT (text:Str):Option Int:=Bv false some text
def IB:Ent:=evE (.cons .str .unit) aO (zero tInt) λx=>lT x.1
def afz:Par:=⟨kV.tab,aA [(213,th),(207,Xv)],λ_=>look [],λ_=>look []⟩
def S5:am prog 174 (IB):=evX func174 (S:=afz) cZ (ah ⟨Fg,ajs,awN⟩) (tys:=[tInt]) (λf x=>Bv true (sm aO) x.1) (λx=>by show _=Option.map aO _;simp only[Bv,lT,ss])
abbrev ff (C:Type):=Str→Bool→Int→Option C
abbrev zi (C:Type):=Str→Int→Bool→Option C
def md (m:Bool)(K:Bool→Option C)(g:ff C):zi C:=λs i f=>fz m tInt (w64 (i+1)) λj=>g s f j
def jP (m:Bool)(K:Bool→Option C)(g:ff C):zi C:=λs i f=>ck (bd i s.length) (cond (ixs s i=10) (md m K g s i false) (md m K g s i f))
def mc (m:Bool)(K:Bool→Option C)(g:ff C):ff C:=λs f i=>cond (i<il s) (ck (bd i s.length) (cond (ixs s i=35) (jP m K g s i true) (jP m K g s i f))) (K (!f))
def vH (m:Bool)(K:Bool→Option C)(f:ff C)(s:Str)(g:Bool):Option C:=cl m ao (uB s 0) λr1=>nq m [2,3,0] (!r1.2.1≥0) (cond (cond (r1.2.1≥0) true (r1.1<il s)) (K false) (cond g (K true) (f s false 0)))
def oE:Nat→ff Bool:=lp (λ_ _ _=>none) λf=>mc false some f
def i7 (s:Str)(f:Bool):Option Bool:=vH false some (oE FU) s f
def JW:Ent:=evE (.cons .str (.cons .bool .unit)) af (zero .bool) λx=>i7 x.1 x.2.1
def oC:MS:=⟨0,[],[(0,.dat .str),(7,.dat .bool),(8,.dat tInt)]⟩
def JX:Par:=⟨kV.tab,aA [(206,XG)],λ_=>look [(12,oC),(9,oC)],λ_=>look [(8,oC)]⟩
def YS:KT:=br kV.tab [.tmp 4] [.bool]
def JY:=h10 JX f176
def oD (g n:Nat):ff AV:=λs f i=>aI 0 oC (JY g 0 [1,1,1,1,1,0,1,0,0]) (aj 0 (aP 0 none (JY g 0 [1,1,1,1,1,1]) YS)) n ⟨mkE 39 [(0,.val .str s),(7,.val .bool f),(8,.val tInt i)],mkH 0 []⟩
def Po (f g:Nat):oD f (g+1)=mc true (sm af) (oD f g):=Φ
def Pp:∀n,oD FU n=mp3 af (oE n):=cA Φ λf _ h=>(Po FU f).trans (by rw[h];funext _ _ _;simp only[mc,jP,md,ss])
def YR:am prog 176 (JW):=evX func176 (S:=JX) cZ (ah ⟨ajy,awN⟩) (tys:=[.bool]) (λf x=>vH true (sm af) (oD f f) x.1 x.2.1) (λx=>by show _=Option.map af _;rw[Pp FU];simp only[vH,i7,jP,md,ss])
abbrev xB (C:Type):=Str→Int→Int→Bool→Option C
abbrev Fq (C:Type):=Str→Option C
def pp (m:Bool)(K:Bool→Option C):Fq C:=λs=>K (decide (s=[]))
def eJ (m:Bool)(K:Bool→Option C):xB C:=λs r1 f g=>cond g (K (decide (r1=1))) (cond (f=9) (nq m [2,0] (!r1=2) (K (cond (r1=2) true (decide (r1=4))))) (cond (f=16) (nq m [2,0] (!r1=1) (K (cond (r1=1) true (decide (r1=3))))) (cond (f=10) (K (decide (r1=5))) (cond (f=11) (K (decide (r1=6))) (cond (f=21) (cl m .bool (uH s) (λr2=>K r2)) (pp m K s))))))
def kU (m:Bool)(K:Bool→Option C):xB C:=λs r1 f j=>cond j (K (decide (r1=2))) (cond (f=2) (fz m .bool (decide (f=2)) (λg=>eJ m K s r1 f g)) (cond (f=4) (fz m .bool (decide (f=4)) (λg=>eJ m K s r1 f g)) (cond (f=12) (fz m .bool (decide (f=12)) (λg=>eJ m K s r1 f g)) (fz m .bool (decide (f=20)) (λg=>eJ m K s r1 f g)))))
def oF (m:Bool)(K:Bool→Option C)(f:Int)(s:Str):Option C:=cl m tInt (lT s) λr1=>cond (f=1) (fz m .bool (decide (f=1)) (λg=>kU m K s r1 f g)) (fz m .bool (decide (f=3)) (λg=>kU m K s r1 f g))
def iA (f:Int)(s:Str):Option Bool:=oF false some f s
def Df:Ent:=evE (.cons tInt (.cons .str .unit)) af (zero .bool) λx=>iA x.1 x.2.1
def I6:MS:=⟨0,[],[(1,.dat .str),(5,.dat tInt),(8,.dat tInt),(9,.dat .bool)]⟩
def Fs:MS:=⟨0,[],[(1,.dat .str),(5,.dat tInt),(8,.dat tInt),(14,.dat .bool)]⟩
def Fr:MS:=⟨0,[],[(1,.dat .str)]⟩
def Pu:Par:=⟨kV.tab,aA [(174,IB),(256,XP)],λ_=>look [(5,I6),(10,Fs),(21,Fr)],λ_=>look []⟩
def Pt:am prog 214 (Df):=evX func214 (S:=Pu) cZ (ah ⟨S5,ajH,awN⟩) (tys:=[.bool]) (λf x=>oF true (sm af) x.1 x.2.1) (λx=>by show _=Option.map af _;simp only[oF,iA,eJ,pp,kU,ss])
end
