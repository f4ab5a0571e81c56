/- The equations of the program's functions. -/
import Derived.Test.YtfgpipfjalmooaaGreatRunD
set_option linter.all false
noncomputable section
namespace Go.Proofs.YtfgpipfjalmooaaGreat
namespace Clo
open Go Go.RowKit Tryz
def TF [SymVal]{r:RC}(h:Vz r=true):∃d n,r = .ok (.pv (.one (.bl true))) d n:=by
 cases r with
 |no=>cases h
 |ok v d n =>have h:WN v (.pv (.one (.bl true)))=true:=h;obtain rfl:=K0 h;exact⟨d,n,rfl⟩
def awake_meets:Abs.MeetsD prog 15 [] (.val .bool true):=by
 letI:SymVal:=⟨λ_=>.bool true,λ_=>rfl,λ_=>True⟩
 obtain⟨d,n,j⟩:=TF Zk;refine Aq (λ_=>trivial) Abs.follows (W7 Abs.follows ZX) (ds:=[]) (λw St g f=>?_) j rfl ⟨_,func15,Φ,Φ⟩;cases g with
 |nil=>trivial
 |cons _ _=>exact f.elim
end Clo
namespace Abs
open Tryz
def agy:MeetsD prog 15 [] (.val .bool true):=Clo.awake_meets
open Go
def Uq:Bool:=true
section
variable {g j:Type}
abbrev ajq {A0 A1 A2 A3 A4 A5 A6 U T R r p l:Type}(o:g→j)(f:A0→A1→A2→A3→A4→A5→A6→U→T→R→r→p→l→Option g):A0→A1→A2→A3→A4→A5→A6→U→T→R→r→p→l→Option j:=λa0 a1 a2 a3 a4 a5 a6 a7 a8 a9 P J C=>Option.map o (f a0 a1 a2 a3 a4 a5 a6 a7 a8 a9 P J C)
def m13 {A0 A1 A2 A3 U T R P J C r p l:Type}(o:g→j)(f:A0→A1→A2→A3→U→T→R→P→J→C→r→p→l→Option g)(a0 a1 a2 a3 a4 a5 a6 a7 a8 a9 a10 a11 a12):ajq o f a0 a1 a2 a3 a4 a5 a6 a7 a8 a9 a10 a11 a12=Option.map o (f a0 a1 a2 a3 a4 a5 a6 a7 a8 a9 a10 a11 a12):=rfl
end
def afk:ak prog 10 (sp2 (.slice tCommit) (.slice tInt) (λg f=>uD g f) (λg f=>.val (.slice tInt) (dj g f))):=K6 λx y h=>aic x y h
def afe:ak prog 13 (sp2 (.slice tCommit) (.slice tInt) (λg f=>uD g f) (λg f=>.val ba (gS g f))):=K6 λx y h=>ah5 x y h
def Zl:ak prog 15 (sp0 (.val .bool (Uq))):=ahv agy
end Abs
namespace Abs
open Go Tryz
section
def kF:TabL:={
 ty:=[(3,tInt),(4,.bool),(9,.str),(22,(.slice bg)),(23,(.slice tInt)),(24,(.slice tCommit)),(29,(.slice aq)),(31,ba),(36,(.slice aa)),(38,tCommit),(42,aN),(44,aa),(45,tInt),(54,aq),(60,bg)],
 cells:=[(3,1),(4,1),(9,1),(22,1),(23,1),(24,1),(29,1),(31,2),(36,1),(38,5),(42,4),(44,6),(45,1),(54,6),(60,4),(63,1),(64,1),(66,1),(70,1),(73,1),(79,1)],
 offs:=[((31,0),0),((31,1),1),((38,0),0),((38,1),1),((38,2),2),((38,3),3),((38,4),4),((42,0),0),((42,1),1),((42,2),2),((42,3),3),((44,0),0),((44,1),1),((44,2),2),((54,0),0),((54,1),5),((60,0),0),((60,1),1),((60,2),2),((60,3),3)],
 one:=[],
 elem:=[(22,60),(23,3),(24,38),(29,54),(36,44)] }
def iu:TabOk prog kF.tab:=TabL.ok Φ
variable{C:Type}
def qG (m:Bool)(K:Int→Option C)(f:cT C):cT C:=λl id i=>cond (i<il l) (ck (bd i l.length) (cl m (.cons aN (.cons .bool .unit)) (cq (ix tCommit l i).2.2.2.2.1 id 1) (λr1=>cond r1.2.1 (K r1.1.1) (fz m tInt (w64 (i+1)) (λg=>f l id g))))) (K 0)
def Ay (m:Bool)(K:Int→Option C)(f:cT C)(l:Λ)(id:Int):Option C:=f l id 0
def sq:Nat→cT Int:=lp (λ_ _ _=>none) λf=>qG false some f
def jg (l:Λ)(id:Int):Option Int:=Ay false some (sq FU) l id
def GO:Ent:=evE (.cons (.slice tCommit) (.cons tInt .unit)) av (zero tInt) λx=>jg x.1 x.2.1
def GN:MS:=⟨0,[],[(0,.dat (.slice tCommit)),(1,.dat tInt),(5,.dat tInt)]⟩
def PJ:Par:=⟨kF.tab,az [(64,lO)],λ_=>look [],λ_=>look [(2,GN)]⟩
def abv:KT:=bq kF.tab [.tmp 4] [tInt]
def PK (f g:Nat)(p:List Nat):Sg→KT→Option AV:=xc (bp fi0 hs0 f 0) PJ g f (sub (f32.body.getD .skip) p)
def sn (f n:Nat):cT AV:=λl id i=>aE 0 GN (PK f 0 [1,0,1,0,0]) (ai 0 (aQ 0 none (PK f 0 [1,1]) abv)) n ⟨mkE 27 [(0,.val (.slice tCommit) l),(1,.val tInt id),(5,.val tInt i)],mkH 0 []⟩
def Tv (f g:Nat):sn f (g+1)=qG true (sm av) (sn f g):=Φ
def Tw:∀n,sn FU n=mp3 av (sq n):=bM Φ λf _ h=>(Tv FU f).trans (by rw[h];funext _ _ _;simp only[qG,ss])
def PI:ak prog 32 (GO):=evX func32 (S:=PJ) iu (af ⟨ra,apj⟩) (tys:=[tInt]) (λf x=>Ay true (sm av) (sn f f) x.1 x.2.1) (λx=>by show _=Option.map av _;rw[Tw FU];simp only[Ay,jg,ss])
abbrev cF (C:Type):=Λ→(List Int)→Bool→Option C
abbrev dA (C:Type):=Λ→(List Int)→Bool→Int→Option C
abbrev gV (C:Type):=Λ→Int→(List Int)→Bool→Int→Option C
abbrev PR (C:Type):=Λ→Int→Int→(List Int)→Bool→Option C
def gX (m:Bool)(K:(List Int)→Option C)(g:aI C):IZ C:=λl f i out=>fz m tInt (w64 (i+1)) λj=>g l f out j
def qI (m:Bool)(K:(List Int)→Option C)(g:aI C)(J:cF C):aI C:=λl f out i=>let b:=ix tInt f i;let a:=bd i f.length;cond (i<il f) (ck a (cl m tInt (jg l b) (λr1=>nq m [2,0] (!r1=2) (cond (cond (r1=2) true (r1=3)) (ck a (cl m (.slice tInt) (iI out b) (λj=>gX m K g l f i j))) (gX m K g l f i out))))) (J l out true)
def qH (m:Bool)(K:(List Int)→Option C)(f:dA C):cF C:=λl out g=>cond g (f l out false 0) (K out)
def mO (m:Bool)(K:(List Int)→Option C)(g:gV C)(J:cF C):dA C:=λl out f i=>cond (i<il l) (g l i out f 0) (J l out f)
def e7 (m:Bool)(K:(List Int)→Option C)(f:gV C):PR C:=λl i p out g=>fz m tInt (w64 (p+1)) λj=>f l i out g j
def mN (m:Bool)(K:(List Int)→Option C)(g:gV C)(p:dA C):gV C:=λl i out j f=>let d:=bd i l.length;let c:=ix tCommit l i;let a:=ix aa c.2.2.2.2.1 f;let b:Bool:=cond (a.2.1=2) (gZ out a.2.2.1.2.2.2.1) false;ck d (cond (f<il c.2.2.2.2.1) (ck d (ck (bd f c.2.2.2.2.1.length) (nq m [2,2] (a.2.1=2) (nm m 2 (a.2.1=2) (tp out a.2.2.1.2.2.2.1) (nq m [1] (a.2.1=2) (nq m [2] b (nm m 2 b (tp out a.1) (nq m [2,1] b (cond (cond b (!gZ out a.1) false) (cl m (.slice tInt) (iI out a.1) (λJ=>e7 m K g l i f J true)) (e7 m K g l i f out j)))))))))) (fz m tInt (w64 (i+1)) (λr=>p l out j r)))
def AC (m:Bool)(K:(List Int)→Option C)(g:aI C)(l:Λ)(f:(List Int)):Option C:=g l f [] 0
def gW (J:cF (List Int))(g:dA (List Int)):Nat→gV (List Int):=lp (λ_ _ _ _ _=>none) λf=>mN false some f g
def j6 (J:cF (List Int)):Nat→dA (List Int):=lp (λ_ _ _ _=>none) λf=>mO false some (gW J f FU) J
def mK:Nat→cF (List Int):=lp (λ_ _ _=>none) λJ=>qH false some (j6 J FU)
def mM:Nat→aI (List Int):=lp (λ_ _ _ _=>none) λf=>qI false some f (mK FU)
def lD (l:Λ)(f:(List Int)):Option (List Int):=AC false some (mM FU) l f
def GR:Ent:=evE (.cons (.slice tCommit) (.cons (.slice tInt) .unit)) ap (zero (.slice tInt)) λx=>lD x.1 x.2.1
def su:MS:=⟨0,[],[(0,.dat (.slice tCommit)),(5,.dat (.slice tInt)),(8,.dat .bool)]⟩
def uF:MS:=⟨0,[],[(0,.dat (.slice tCommit)),(5,.dat (.slice tInt)),(8,.dat .bool),(9,.dat tInt)]⟩
def uE:MS:=⟨0,[],[(0,.dat (.slice tCommit)),(5,.dat (.slice tInt)),(8,.dat .bool),(9,.dat tInt),(10,.dat tInt)]⟩
def PY:Par:=⟨kF.tab,az [(32,GO),(19,BX),(17,sI)],λ_=>look [(4,db),(16,uE)],λ_=>look [(3,db),(9,su),(12,uF),(15,uE)]⟩
def qJ:KT:=bq kF.tab [.tmp 4] [(.slice tInt)]
def dT (f g:Nat)(p:List Nat):Sg→KT→Option AV:=xc (bp fi0 hs0 f 0) PY g f (sub (f11.body.getD .skip) p)
def sw (f n:Nat):aI AV:=λl g out i=>aE 0 db (dT f 0 [1,1,0,1,0,0]) (ai 0 (aQ 0 none (dT f 0 [1,1,1]) qJ)) n ⟨mkE 83 [(0,.val (.slice tCommit) l),(1,.val (.slice tInt) g),(5,.val (.slice tInt) out),(6,.val tInt i)],mkH 0 []⟩
def jh (f n:Nat):cF AV:=λl out g=>aE 0 su (dT f 0 [1,1,1,0,1,0,0]) (ai 2 (aQ 0 none (dT f 0 [1,1,1,1]) qJ)) n ⟨mkE 83 [(0,.val (.slice tCommit) l),(5,.val (.slice tInt) out),(8,.val .bool g)],mkH 0 []⟩
def j4 (f j n:Nat):dA AV:=λl out g i=>aE 0 uF (dT f 0 [1,1,1,0,1,0,0,1,0,1,1,0,0]) (ai 4 (ai 3 (kLp 0 su (dT f 0 [1,1,1,0,1,0,0]) (ai 2 (aQ 0 none (dT f 0 [1,1,1,1]) qJ)) j))) n ⟨mkE 83 [(0,.val (.slice tCommit) l),(5,.val (.slice tInt) out),(8,.val .bool g),(9,.val tInt i)],mkH 0 []⟩
def oM (f r p n:Nat):gV AV:=λl i out g j=>aE 0 uE (dT f 0 [1,1,1,0,1,0,0,1,0,1,1,0,0,1,0,0,1,0,0]) (ai 6 (ai 5 (aQ 0 none (dT f 0 [1,1,1,0,1,0,0,1,0,1,1,0,0,1,1]) (kLp 0 uF (dT f 0 [1,1,1,0,1,0,0,1,0,1,1,0,0]) (ai 4 (ai 3 (kLp 0 su (dT f 0 [1,1,1,0,1,0,0]) (ai 2 (aQ 0 none (dT f 0 [1,1,1,1]) qJ)) r))) p)))) n ⟨mkE 83 [(0,.val (.slice tCommit) l),(5,.val (.slice tInt) out),(8,.val .bool g),(9,.val tInt i),(10,.val tInt j)],mkH 0 []⟩
def TB (f g:Nat):sw f (g+1)=qI true (sm ap) (sw f g) (jh f f):=Φ
def Tz (f g:Nat):jh f (g+1)=qH true (sm ap) (j4 f g f):=Φ
def PW (f j g:Nat):j4 f j (g+1)=mO true (sm ap) (oM f j g f) (jh f j):=Φ
def PS (f l g j:Nat):oM f l g (j+1)=mN true (sm ap) (oM f l g j) (j4 f l g):=Φ
variable{J:cF (List Int)}
def PU (l g:Nat)(r:jh FU l=mp3 ap J){f:dA (List Int)}(j:j4 FU l g=mp4 ap f):∀n,oM FU l g n=mp5 ap (gW J f n):=bM Φ λp _ h=>(PS FU l g p).trans (by rw[h,j];funext _ _ _ _ _;simp only[mN,e7,gX,ss])
def PX (j:Nat)(f:jh FU j=mp3 ap J):∀n,j4 FU j n=mp4 ap (j6 J n):=bM Φ λg _ h=>(PW FU j g).trans (by rw[PU j g f h FU,f];funext _ _ _ _;simp only[mO,e7,gX,ss])
def TA:∀n,jh FU n=mp3 ap (mK n):=bM Φ λf _ h=>(Tz FU f).trans (by rw[PX f h FU];funext _ _ _;simp only[qH,e7,gX,ss])
def TC:∀n,sw FU n=mp4 ap (mM n):=bM Φ λf _ h=>(TB FU f).trans (by rw[h,TA FU];funext _ _ _ _;simp only[qI,e7,gX,ss])
def PQ:ak prog 11 (GR):=evX func11 (S:=PY) iu (af ⟨PI,FL,uK,apj⟩) (tys:=[(.slice tInt)]) (λf x=>AC true (sm ap) (sw f f) x.1 x.2.1) (λx=>by show _=Option.map ap _;rw[TC FU];simp only[AC,lD,e7,gX,ss])
abbrev je (C:Type):=Λ→(List Int)→Int→(List Int)→Int→Option C
abbrev Sv (C:Type):=Λ→(List Int)→Int→Int→(List Int)→Option C
def qf (m:Bool)(K:(List Int)→Option C)(g:je C):aI C:=λl f out i=>cond (i<il l) (g l f i out 0) (K out)
def lw (m:Bool)(K:(List Int)→Option C)(g:je C):Sv C:=λl f i p out=>fz m tInt (w64 (p+1)) λj=>g l f i out j
def qe (m:Bool)(K:(List Int)→Option C)(g:je C)(p:aI C):je C:=λl f i out j=>let d:=bd i l.length;let c:=ix tCommit l i;let a:=ix aa c.2.2.2.2.1 j;let b:Bool:=cond (a.2.1=4) (! a.2.2.1.2.2.2.1=0) false;ck d (cond (j<il c.2.2.2.2.1) (ck d (ck (bd j c.2.2.2.2.1.length) (nq m [2,2,2,1] (a.2.1=4) (nq m [2] b (nm m 2 b (tp f a.1) (nq m [1] b (cond (cond b (gZ f a.1) false) (cl m (.slice tInt) (iI out a.2.2.1.2.2.2.1) (λr1=>lw m K g l f i j r1)) (lw m K g l f i j out)))))))) (fz m tInt (w64 (i+1)) (λr=>p l f out r)))
def zK (m:Bool)(K:(List Int)→Option C)(g:aI C)(l:Λ)(f:(List Int)):Option C:=g l f [] 0
def jf (g:aI (List Int)):Nat→je (List Int):=lp (λ_ _ _ _ _=>none) λf=>qe false some f g
def rT:Nat→aI (List Int):=lp (λ_ _ _ _=>none) λf=>qf false some (jf f FU)
def qg (l:Λ)(f:(List Int)):Option (List Int):=zK false some (rT FU) l f
def ON:Ent:=evE (.cons (.slice tCommit) (.cons (.slice tInt) .unit)) ap (zero (.slice tInt)) λx=>qg x.1 x.2.1
def yg:MS:=⟨0,[],[(0,.dat (.slice tCommit)),(1,.dat (.slice tInt)),(5,.dat (.slice tInt)),(6,.dat tInt),(7,.dat tInt)]⟩
def OO:Par:=⟨kF.tab,az [(17,sI),(19,BX)],λ_=>look [(7,yg)],λ_=>look [(3,db),(6,yg)]⟩
def qh (f g:Nat)(p:List Nat):Sg→KT→Option AV:=xc (bp fi0 hs0 f 0) OO g f (sub (f42.body.getD .skip) p)
def mw (f n:Nat):aI AV:=λl g out i=>aE 0 db (qh f 0 [1,1,0,1,0,0]) (ai 0 (aQ 0 none (qh f 0 [1,1,1]) qJ)) n ⟨mkE 54 [(0,.val (.slice tCommit) l),(1,.val (.slice tInt) g),(5,.val (.slice tInt) out),(6,.val tInt i)],mkH 0 []⟩
def rS (f p n:Nat):je AV:=λl g i out j=>aE 0 yg (qh f 0 [1,1,0,1,0,0,1,0,0,1,0,0]) (ai 2 (ai 1 (aQ 0 none (qh f 0 [1,1,0,1,0,0,1,1]) (kLp 0 db (qh f 0 [1,1,0,1,0,0]) (ai 0 (aQ 0 none (qh f 0 [1,1,1]) qJ)) p)))) n ⟨mkE 54 [(0,.val (.slice tCommit) l),(1,.val (.slice tInt) g),(5,.val (.slice tInt) out),(6,.val tInt i),(7,.val tInt j)],mkH 0 []⟩
def SA (f g:Nat):mw f (g+1)=qf true (sm ap) (rS f g f):=Φ
def Sw (f g j:Nat):rS f g (j+1)=qe true (sm ap) (rS f g j) (mw f g):=Φ
def Sz (j:Nat){f:aI (List Int)}(g:mw FU j=mp4 ap f):∀n,rS FU j n=mp5 ap (jf f n):=bM Φ λl _ h=>(Sw FU j l).trans (by rw[h,g];funext _ _ _ _ _;simp only[qe,lw,ss])
def SB:∀n,mw FU n=mp4 ap (rT n):=bM Φ λf _ h=>(SA FU f).trans (by rw[Sz f h FU];funext _ _ _ _;simp only[qf,lw,ss])
def aaF:ak prog 42 (ON):=evX func42 (S:=OO) iu (af ⟨uK,FL,apj⟩) (tys:=[(.slice tInt)]) (λf x=>zK true (sm ap) (mw f f) x.1 x.2.1) (λx=>by show _=Option.map ap _;rw[SB FU];simp only[zK,qg,lw,ss])
abbrev mE (C:Type):=Λ→(List Int)→Int→(List Int)→(List aq.den)→Option C
abbrev eY (C:Type):=Λ→(List Int)→(List Int)→Int→(List Int)→(List aq.den)→Option C
abbrev gT (C:Type):=Λ→(List Int)→(List Int)→Int→(List Int)→(List aq.den)→Int→Int→(List Int)→(List Int)→Str→Υ→Int→Option C
abbrev Pu (C:Type):=Λ→(List Int)→(List Int)→Int→Int→(List Int)→(List aq.den)→Int→(List Int)→(List Int)→Str→Υ→Int→Option C
def qx (m:Bool)(K:ba.den→Option C)(p:mE C)(J:eY C):mE C:=λl f i j g=>cond (i<il f) (ck (bd i f.length) (cl m (.slice tInt) (iI j (ix tInt f i)) (λr1=>fz m tInt (w64 (i+1)) λr=>p l f r r1 g))) (cl m (.slice tInt) (lD l f) (λP=>cl m (.slice tInt) (qg l P) λR=>J l P R 0 j g))
def qw (m:Bool)(K:ba.den→Option C)(j:gT C):eY C:=λl T R i g f=>let a:=ix tCommit l i;cond (i<il l) (ck (bd i l.length) (fz m tInt a.1 (λP=>fz m (.slice tInt) a.2.1 λJ=>fz m (.slice tInt) a.2.2.1 λr=>fz m .str a.2.2.2.1 λp=>j l T R i g f 0 P J r p [] 0))) (K (g,f,()))
def gE (m:Bool)(K:ba.den→Option C)(f:gT C):Pu C:=λl r2 r3 i t11 T R P J r p j g=>fz m tInt (w64 (t11+1)) λU=>f l r2 r3 i T R U P J r p j g
def Vx (g:Λ)(f:Int):Bool:=(jg g f).isSome
def cZ (g:Λ)(f:Int):Int:=(jg g f).getD (zero tInt)
def mH (m:Bool)(K:ba.den→Option C)(k_l14:gT C)(J:eY C):gT C:=λl r2 r3 i b1_0 b1_1 t11 U T R P p r=>let k:=bd i l.length;let e:=ix tCommit l i;let a:=ix aa e.2.2.2.2.1 t11;let h:=cond (a.2.1=1) true (a.2.1=2);let b:Bool:=cond (a.2.1≤3) (!cZ l a.1=5) false;ck k (cond (t11<il e.2.2.2.2.1) (ck k (ck (bd t11 e.2.2.2.2.1.length) (cl m .bool (oR r2 a.1) (λr4=>let j:Bool:=!cond r4 true b&&! a.2.1=1;let g:Bool:=!r4&&a.2.1≤3;let f:Bool:=!cond r4 true b&&!cond (a.2.1=1) true (a.2.1=2);let d:Bool:=!cond r4 true b;let c:Bool:=!cond r4 true b&&cond h true (a.2.1=4);nq m [2,2,2] (!r4) (nq m [2] g (nm m 2 g (Vx l a.1) (nq m [2] g (nm m 0 (!r4) (ii g&&true) (nq m [0] (!r4) (nq m [2,2,2] d (nq m [2,2] j (nm m 0 d (ii j) (nq m [2] d (nq m [2,2] f (nm m 0 d (ii f) (nq m [2] d (nq m [2] c (nm m 2 c (tp r3 a.1) (nm m 0 d (ii c&&true) (nq m [0] d (cond (cond (cond r4 true b) true (cond (cond h true (a.2.1=4)) (gZ r3 a.1) false)) (ck (lm (List.length p+List.length ([ix aa e.2.2.2.2.1 t11]:List aa.den))) (fz m (.slice aa) (p++[ix aa e.2.2.2.2.1 t11]) (λy11_=>gE m K k_l14 l r2 r3 i t11 b1_0 b1_1 U T R P y11_ r))) (fz m tInt (w64 (r+1)) (λy12_=>gE m K k_l14 l r2 r3 i t11 b1_0 b1_1 U T R P p y12_))))))))))))))))))))))) (ck (lm (List.length b1_1+List.length ([((U,T,R,P,p,()),r,())]:List aq.den))) (fz m tInt (w64 (i+1)) (λy3_=>fz m (.slice aq) (b1_1++[((U,T,R,P,p,()),r,())]) λy5_=>J l r2 r3 y3_ b1_0 y5_))))
def As (m:Bool)(K:ba.den→Option C)(g:mE C)(l:Λ)(f:(List Int)):Option C:=g l f 0 [] []
def jZ (J:eY ba.den):Nat→gT ba.den:=lp (λ_ _ _ _ _ _ _ _ _ _ _ _ _=>none) λf=>mH false some f J
def mG:Nat→eY ba.den:=lp (λ_ _ _ _ _ _=>none) λJ=>qw false some (jZ J FU)
def sj:Nat→mE ba.den:=lp (λ_ _ _ _ _=>none) λf=>qx false some f (mG FU)
def lB (l:Λ)(f:(List Int)):Option ba.den:=As false some (sj FU) l f
def fY (r:ba.den):AV :=.val ba r
def Px:Ent:=evE (.cons (.slice tCommit) (.cons (.slice tInt) .unit)) fY (zero ba) λx=>lB x.1 x.2.1
def GD:MS:=⟨2,[(0,[.own tInt 3,.own aq 54]),(1,[.dat (.slice tInt),.own aq 54])],[(0,.dat (.slice tCommit)),(1,.dat (.slice tInt)),(4,.keep),(5,.keep),(6,.dat tInt)]⟩
def yz:MS:=⟨2,[(0,[.own tInt 3,.own aq 54]),(1,[.dat (.slice tInt),.own aq 54])],[(0,.dat (.slice tCommit)),(4,.keep),(5,.keep),(7,.dat (.slice tInt)),(8,.dat (.slice tInt)),(9,.dat tInt)]⟩
def uu:MS:=⟨15,[(0,[.own tInt 3,.own aq 54]),(1,[.dat (.slice tInt),.own aq 54]),(14,[.dat tInt,.dat (.slice tInt),.dat (.slice tInt),.dat .str,.own aa 44,.dat tInt])],[(0,.dat (.slice tCommit)),(4,.keep),(5,.keep),(7,.dat (.slice tInt)),(8,.dat (.slice tInt)),(9,.dat tInt),(10,.keep),(11,.dat tInt)]⟩
def Py:Par:=⟨kF.tab,az [(19,BX),(11,GR),(42,ON),(17,sI),(32,GO)],λ_=>look [(15,uu)],λ_=>look [(3,GD),(9,yz),(14,uu)]⟩
def GE:KT:=bq kF.tab [.cell 4 31] [ba]
def iL (f g:Nat)(p:List Nat):Sg→KT→Option AV:=xc (bp fi0 hs0 f 0) Py g f (sub (f14.body.getD .skip) p)
def sg (f n:Nat):mE AV:=λl g i p j=>aE 0 GD (iL f 0 [1,1,0,1,0,0]) (ai 0 (aQ 0 none (iL f 0 [1,1,1]) GE)) n ⟨mkE 120 [(0,.val (.slice tCommit) l),(1,.val (.slice tInt) g),(4,.box 0 0),(5,.box 1 0),(6,.val tInt i)],mkH 5 [(0,.box [.own 2 0 tInt [],.own 3 0 aq []]),(1,.box [.val (.slice tInt) p,.own 4 0 aq j]),(2,.row tInt 3 0),(3,.row aq 54 0),(4,.row aq 54 0)]⟩
def mF (f n:Nat):eY AV:=λl r p i j g=>aE 0 yz (iL f 0 [1,1,1,1,1,0,1,0,0]) (ai 2 (aQ 0 none (iL f 0 [1,1,1,1,1,1]) GE)) n ⟨mkE 120 [(0,.val (.slice tCommit) l),(4,.box 0 0),(5,.box 1 0),(7,.val (.slice tInt) r),(8,.val (.slice tInt) p),(9,.val tInt i)],mkH 5 [(0,.box [.own 2 0 tInt [],.own 3 0 aq []]),(1,.box [.val (.slice tInt) j,.own 4 0 aq g]),(2,.row tInt 3 0),(3,.row aq 54 0),(4,.row aq 54 0)]⟩
def oJ (f n9 n:Nat):gT AV:=λl r2 U i R P T J C r p j g=>aE 0 uu (iL f 0 [1,1,1,1,1,0,1,0,0,1,0,0,1,1,0,1,0,0]) (ai 4 (aQ 0 none (iL f 0 [1,1,1,1,1,0,1,0,0,1,0,0,1,1,1]) (ai 3 (aQ 0 none (iL f 0 [1,1,1,1,1,0,1,0,0,1,1]) (kLp 0 yz (iL f 0 [1,1,1,1,1,0,1,0,0]) (ai 2 (aQ 0 none (iL f 0 [1,1,1,1,1,1]) GE)) n9))))) n ⟨mkE 120 [(0,.val (.slice tCommit) l),(4,.box 0 0),(5,.box 1 0),(7,.val (.slice tInt) r2),(8,.val (.slice tInt) U),(9,.val tInt i),(10,.box 14 0),(11,.val tInt T)],mkH 19 [(0,.box [.own 15 0 tInt [],.own 16 0 aq []]),(1,.box [.val (.slice tInt) R,.own 17 0 aq P]),(2,.row tInt 3 1),(3,.row aq 54 1),(4,.row aq 54 1),(14,.box [.val tInt J,.val (.slice tInt) C,.val (.slice tInt) r,.val .str p,.own 18 0 aa j,.val tInt g]),(15,.row tInt 3 0),(16,.row aq 54 0),(17,.row aq 54 0),(18,.row aa 44 0)]⟩
def Tm (f g:Nat):sg f (g+1)=qx true (sm fY) (sg f g) (mF f f):=Φ
def Tk (f g:Nat):mF f (g+1)=qw true (sm fY) (oJ f g f):=Φ
def Pv (f j g:Nat):oJ f j (g+1)=mH true (sm fY) (oJ f j g) (mF f j):=Φ
def Pw (g:Nat){J:eY ba.den}(f:mF FU g=mp6 fY J):∀n,oJ FU g n=ajq fY (jZ J n):=bM Φ λj _ h=>(Pv FU g j).trans (by rw[h,f];funext _ _ _ _ _ _ _ _ _ _ _ _ _;simp only[mH,gE,m13,ss])
def Tl:∀n,mF FU n=mp6 fY (mG n):=bM Φ λf _ h=>(Tk FU f).trans (by rw[Pw f h FU];funext _ _ _ _ _ _;simp only[qw,gE,m13,ss])
def Tn:∀n,sg FU n=mp5 fY (sj n):=bM Φ λf _ h=>(Tm FU f).trans (by rw[h,Tl FU];funext _ _ _ _ _;simp only[qx,gE,m13,ss])
def abk:ak prog 14 (Px):=evX func14 (S:=Py) iu (af ⟨FL,PQ,aaF,uK,PI,apj⟩) (tys:=[ba]) (λf x=>As true (sm fY) (sg f f) x.1 x.2.1) (λx=>by show _=Option.map fY _;rw[Tn FU];simp only[As,lB,gE,m13,ss])
abbrev p7 (C:Type):=(List Int)→(List Int)→Int→Option C
def tT (m:Bool)(K:Bool→Option C)(f:p7 C):p7 C:=λa b i=>cond (i<il a) (ck (bd i a.length) (ck (bd i b.length) (cond (!ix tInt a i=ix tInt b i) (K false) (fz m tInt (w64 (i+1)) (λg=>f a b g))))) (K true)
def DP (m:Bool)(K:Bool→Option C)(f:p7 C)(a:(List Int))(b:(List Int)):Option C:=cond (!il a=il b) (K false) (f a b 0)
def vV:Nat→p7 Bool:=lp (λ_ _ _=>none) λf=>tT false some f
def jN (a:(List Int))(b:(List Int)):Option Bool:=DP false some (vV FU) a b
def DQ:Ent:=evE (.cons (.slice tInt) (.cons (.slice tInt) .unit)) ac (zero .bool) λx=>jN x.1 x.2.1
def I8:MS:=⟨0,[],[(0,.dat (.slice tInt)),(1,.dat (.slice tInt)),(5,.dat tInt)]⟩
def UT:Par:=⟨kF.tab,az [],λ_=>look [],λ_=>look [(4,I8)]⟩
def Lg:KT:=bq kF.tab [.tmp 4] [.bool]
def UU (f g:Nat)(p:List Nat):Sg→KT→Option AV:=xc (bp fi0 hs0 f 0) UT g f (sub (f9.body.getD .skip) p)
def vU (f n:Nat):p7 AV:=λa b i=>aE 0 I8 (UU f 0 [1,1,0,1,0,0]) (ai 0 (aQ 0 none (UU f 0 [1,1,1]) Lg)) n ⟨mkE 26 [(0,.val (.slice tInt) a),(1,.val (.slice tInt) b),(5,.val tInt i)],mkH 0 []⟩
def Xs (f g:Nat):vU f (g+1)=tT true (sm ac) (vU f g):=Φ
def Xt:∀n,vU FU n=mp3 ac (vV n):=bM Φ λf _ h=>(Xs FU f).trans (by rw[h];funext _ _ _;simp only[tT,ss])
def Le:ak prog 9 (DQ):=evX func9 (S:=UT) iu (af trivial) (tys:=[.bool]) (λf x=>DP true (sm ac) (vU f f) x.1 x.2.1) (λx=>by show _=Option.map ac _;rw[Xt FU];simp only[DP,jN,ss])
abbrev p8 (C:Type):=tCommit.den→tCommit.den→Int→Option C
def tU (m:Bool)(K:Bool→Option C)(f:p8 C):p8 C:=λa b i=>cond (i<il a.2.2.2.2.1) (ck (bd i a.2.2.2.2.1.length) (ck (bd i b.2.2.2.2.1.length) (cond (!eqD aa (ix aa a.2.2.2.2.1 i) (ix aa b.2.2.2.2.1 i)) (K false) (fz m tInt (w64 (i+1)) (λg=>f a b g))))) (K true)
def Lh (g:(List Int))(f:(List Int)):Bool:=(jN g f).isSome
def rL (g:(List Int))(f:(List Int)):Bool:=(jN g f).getD (zero .bool)
def DR (m:Bool)(K:Bool→Option C)(j:p8 C)(a:tCommit.den)(b:tCommit.den):Option C:=let h:Bool:=!rL a.2.2.1 b.2.2.1;let g:Bool:=!a.2.2.2.1=b.2.2.2.1;let e:Bool:=!rL a.2.1 b.2.1;let d:Bool:=!cond (!a.1=b.1) true g;let c:=cond (!a.1=b.1) true g;let i:=cond c true e;let f:Bool:=!cond c true e;nq m [2,2,3,0] (!!a.1=b.1) (nq m [2,2] d (nm m 2 d (Lh a.2.1 b.2.1) (nq m [2,0] d (nq m [2,2] f (nm m 2 f (Lh a.2.2.1 b.2.2.1) (nq m [2,0] f (nq m [2,2,2,2,3,0] (!cond i true h) (cond (cond (cond i true h) true (!il a.2.2.2.2.1=il b.2.2.2.2.1)) (K false) (j a b 0)))))))))
def vX:Nat→p8 Bool:=lp (λ_ _ _=>none) λf=>tU false some f
def p9 (a:tCommit.den)(b:tCommit.den):Option Bool:=DR false some (vX FU) a b
def UV:Ent:=evE (.cons tCommit (.cons tCommit .unit)) ac (zero .bool) λx=>p9 x.1 x.2.1
def I9:MS:=⟨2,[(0,[.dat tInt,.dat (.slice tInt),.dat (.slice tInt),.dat .str,.dat (.slice aa)]),(1,[.dat tInt,.dat (.slice tInt),.dat (.slice tInt),.dat .str,.dat (.slice aa)])],[(2,.keep),(3,.keep),(5,.dat tInt)]⟩
def UW:Par:=⟨kF.tab,az [(9,DQ)],λ_=>look [],λ_=>look [(4,I9)]⟩
def UX (f g:Nat)(p:List Nat):Sg→KT→Option AV:=xc (bp fi0 hs0 f 0) UW g f (sub (f33.body.getD .skip) p)
def vW (f n:Nat):p8 AV:=λa b i=>aE 0 I9 (UX f 0 [1,1,0,1,0,0]) (ai 0 (aQ 0 none (UX f 0 [1,1,1]) Lg)) n ⟨mkE 61 [(2,.box 0 0),(3,.box 1 0),(5,.val tInt i)],mkH 2 [(0,.box [.val tInt a.1,.val (.slice tInt) a.2.1,.val (.slice tInt) a.2.2.1,.val .str a.2.2.2.1,.val (.slice aa) a.2.2.2.2.1]),(1,.box [.val tInt b.1,.val (.slice tInt) b.2.1,.val (.slice tInt) b.2.2.1,.val .str b.2.2.2.1,.val (.slice aa) b.2.2.2.2.1])]⟩
def Xv (f g:Nat):vW f (g+1)=tU true (sm ac) (vW f g):=Φ
def Xw:∀n,vW FU n=mp3 ac (vX n):=bM Φ λf _ h=>(Xv FU f).trans (by rw[h];funext _ _ _;simp only[tU,ss])
def aen:ak prog 33 (UV):=evX func33 (S:=UW) iu (af ⟨Le,apj⟩) (tys:=[.bool]) (λf x=>DR true (sm ac) (vW f f) x.1 x.2.1) (λx=>by show _=Option.map ac _;rw[Xw FU];simp only[DR,p9,ss])
abbrev mj (C:Type):=ba.den→ba.den→Int→Option C
def aaw (g:tCommit.den)(f:tCommit.den):Bool:=(p9 g f).isSome
def aax (g:tCommit.den)(f:tCommit.den):Bool:=(p9 g f).getD (zero .bool)
def qb (m:Bool)(K:Bool→Option C)(j:mj C):mj C:=λa b i=>let g:=bd i b.2.1.length;let f:=bd i a.2.1.length;let e:=ix aq b.2.1 i;let d:=ix aq a.2.1 i;let c:Bool:=!! d.2.1=e.2.1;cond (i<il a.2.1) (ck f (ck g (nq m [2] c (nm m 2 c f (nq m [2,2,2] c (nm m 2 c g (nq m [2,2] c (nm m 2 c (aaw d.1 e.1) (nq m [2,0] c (cond (cond (! d.2.1=e.2.1) true (!aax d.1 e.1)) (K false) (fz m tInt (w64 (i+1)) (λl=>j a b l)))))))))))) (K true)
def zD (m:Bool)(K:Bool→Option C)(f:mj C)(a:ba.den)(b:ba.den):Option C:=cl m .bool (jN a.1 b.1) λr1=>nq m [2,2,2,2,3,0] (!!r1) (cond (cond (!r1) true (!il a.2.1=il b.2.1)) (K false) (f a b 0))
def rN:Nat→mj Bool:=lp (λ_ _ _=>none) λf=>qb false some f
def lr (a:ba.den)(b:ba.den):Option Bool:=zD false some (rN FU) a b
def Ot:Ent:=evE (.cons ba (.cons ba .unit)) ac (zero .bool) λx=>lr x.1 x.2.1
def Fj:MS:=⟨2,[(0,[.dat (.slice tInt),.dat (.slice aq)]),(1,[.dat (.slice tInt),.dat (.slice aq)])],[(2,.keep),(3,.keep),(5,.dat tInt)]⟩
def Ou:Par:=⟨kF.tab,az [(9,DQ),(33,UV)],λ_=>look [],λ_=>look [(4,Fj)]⟩
def Ov (f g:Nat)(p:List Nat):Sg→KT→Option AV:=xc (bp fi0 hs0 f 0) Ou g f (sub (f12.body.getD .skip) p)
def rM (f n:Nat):mj AV:=λa b i=>aE 0 Fj (Ov f 0 [1,1,0,1,0,0]) (ai 0 (aQ 0 none (Ov f 0 [1,1,1]) Lg)) n ⟨mkE 57 [(2,.box 0 0),(3,.box 1 0),(5,.val tInt i)],mkH 2 [(0,.box [.val (.slice tInt) a.1,.val (.slice aq) a.2.1]),(1,.box [.val (.slice tInt) b.1,.val (.slice aq) b.2.1])]⟩
def Sk (f g:Nat):rM f (g+1)=qb true (sm ac) (rM f g):=Φ
def Sl:∀n,rM FU n=mp3 ac (rN n):=bM Φ λf _ h=>(Sk FU f).trans (by rw[h];funext _ _ _;simp only[qb,ss])
def aay:ak prog 12 (Ot):=evX func12 (S:=Ou) iu (af ⟨Le,aen,apj⟩) (tys:=[.bool]) (λf x=>zD true (sm ac) (rM f f) x.1 x.2.1) (λx=>by show _=Option.map ac _;rw[Sl FU];simp only[zD,lr,ss])
def afl:Ent:=sp2 (.slice tCommit) (.slice tInt) (λg f=>uD g f) λg f=>.val (.slice tInt) (dj g f)
def aff:Ent:=sp2 (.slice tCommit) (.slice tInt) (λg f=>uD g f) λg f=>.val ba (gS g f)
def Zm:Ent:=sp0 (.val .bool (Uq))
def Vr (g:Λ)(f:(List Int)):Bool:=(lB g f).isSome
def UY (g:ba.den)(f:ba.den):Bool:=(lr g f).isSome
def D7 (g:Λ)(f:(List Int)):ba.den:=(lB g f).getD (zero ba)
def Li (g:ba.den)(f:ba.den):Bool:=(lr g f).getD (zero .bool)
def sk (m:Bool)(K:Bool→Option C)(first:Int)(l:La')(x:(List Int)):Option C:=cl m (.slice tCommit) (kh first l) λr1=>cl m (.slice tInt) (pJ r1 x) λf=>ce m (.slice tInt) (uD r1 f) (dj r1 f) λp=>cl m (.slice tInt) (lD r1 f) λj=>cl m .bool (jN p j) λg=>let a:Bool:=cond g (Li (gS r1 f) (D7 r1 f)) false;nm m 2 g (uD r1 f) (nm m 2 g (Vr r1 f) (nm m 2 g (UY (gS r1 f) (D7 r1 f)) (nq m [1] g (nq m [1] a (K (cond a Uq false))))))
def gU (first:Int)(l:La')(x:(List Int)):Option Bool:=sk false some first l x
def GK:Ent:=evE (.cons tInt (.cons (.slice bg) (.cons (.slice tInt) .unit))) ac (zero .bool) λx=>gU x.1 x.2.1 x.2.2.1
def Tu:Par:=⟨kF.tab,az [(7,G2),(8,Nu),(10,afl),(11,GR),(9,DQ),(13,aff),(14,Px),(12,Ot),(15,Zm)],λ_=>look [],λ_=>look []⟩
def Tt:ak prog 3 (GK):=evX func3 (S:=Tu) iu (af ⟨TR,ZG,afk,PQ,Le,afe,abk,aay,Zl,apj⟩) (tys:=[.bool]) (λf x=>sk true (sm ac) x.1 x.2.1 x.2.2.1) (λx=>by show _=Option.map ac _;simp only[sk,gU,m13,ss])
end
end Abs
