/- The equations of the program's functions. -/
import Derived.Test.YtfgpipfjalmooaaGreatRunD
import Derived.Test.YtfgpipfjalmooaaGreatMkF
set_option linter.all false
noncomputable section
namespace Go.Proofs.YtfgpipfjalmooaaGreat
namespace Clo
open Go Go.RowKit Tryz
def T4 [SymVal]{r:RC}(h:V7 r=true):∃d n,r = .ok (.pv (.one (.bl true))) d n:=by
 cases r with
 |no=>cases h
 |ok v d n =>have h:Xk v (.pv (.one (.bl true)))=true:=h;obtain rfl:=Lz h;exact⟨d,n,rfl⟩
def awake_meets:Abs.MeetsD prog 15 [] (.val .bool true):=by
 letI:SymVal:=⟨λ_=>.bool true,λ_=>rfl,λ_=>True⟩
 obtain⟨d,n,j⟩:=T4 ZB;refine AG (λ_=>trivial) Abs.follows (Xv Abs.follows aaj) (ds:=[]) (λw St g f=>?_) j rfl ⟨_,func15,Φ,Φ⟩;cases g with
 |nil=>trivial
 |cons _ _=>exact f.elim
end Clo
namespace Abs
open Tryz
def af6:MeetsD prog 15 [] (.val .bool true):=Clo.awake_meets
open Go
def C0:Bool:=true
section
variable {g j:Type}
abbrev mp8 {T R P J C r p l:Type}(o:g→j)(f:T→R→P→J→C→r→p→l→Option g):T→R→P→J→C→r→p→l→Option j:=λa0 a1 a2 a3 a4 a5 a6 U=>Option.map o (f a0 a1 a2 a3 a4 a5 a6 U)
def m8 {T R P J C r p l:Type}(o:g→j)(f:T→R→P→J→C→r→p→l→Option g)(a0 a1 a2 a3 a4 a5 a6 a7):mp8 o f a0 a1 a2 a3 a4 a5 a6 a7=Option.map o (f a0 a1 a2 a3 a4 a5 a6 a7):=rfl
abbrev aiO {A0 A1 A2 A3 A4 A5 A6 U T R r p l:Type}(o:g→j)(f:A0→A1→A2→A3→A4→A5→A6→U→T→R→r→p→l→Option g):A0→A1→A2→A3→A4→A5→A6→U→T→R→r→p→l→Option j:=λa0 a1 a2 a3 a4 a5 a6 a7 a8 a9 P J C=>Option.map o (f a0 a1 a2 a3 a4 a5 a6 a7 a8 a9 P J C)
def m13 {A0 A1 A2 A3 U T R P J C r p l:Type}(o:g→j)(f:A0→A1→A2→A3→U→T→R→P→J→C→r→p→l→Option g)(a0 a1 a2 a3 a4 a5 a6 a7 a8 a9 a10 a11 a12):aiO o f a0 a1 a2 a3 a4 a5 a6 a7 a8 a9 a10 a11 a12=Option.map o (f a0 a1 a2 a3 a4 a5 a6 a7 a8 a9 a10 a11 a12):=rfl
end
def Zk:ar prog 38 (sp1 tCommit (λf=>EL f) (λf=>.val tCommit (BI f))):=uh λx h=>acS x h
def afm:ar prog 20 (sp2 am (.slice tCommit) (λg f=>Br g f) (λg f=>.tup (cm [.val am ((b7 g f).1),.val tInt ((b7 g f).2.1)]))):=ag0 λx y h=>ahQ x y h
def ZC:ar prog 15 (sp0 (.val .bool (C0))):=ag1 af6
end Abs
namespace Abs
open Go Tryz
section
def eN:TabL:={
 ty:=[(3,tInt),(4,.bool),(9,.str),(22,(.slice aX)),(23,(.slice tInt)),(24,(.slice tCommit)),(29,(.slice ao)),(31,am),(36,(.slice aa)),(38,tCommit),(42,aJ),(44,aa),(45,tInt),(54,ao),(60,aX)],
 cells:=[(3,1),(4,1),(9,1),(22,1),(23,1),(24,1),(29,1),(31,2),(36,1),(38,5),(42,4),(44,6),(45,1),(54,6),(60,4),(82,1)],
 offs:=[((31,0),0),((31,1),1),((38,0),0),((38,1),1),((38,2),2),((38,3),3),((38,4),4),((42,0),0),((42,1),1),((42,2),2),((42,3),3),((44,0),0),((44,1),1),((44,2),2),((54,0),0),((54,1),5),((60,0),0),((60,1),1),((60,2),2),((60,3),3)],
 one:=[(31,2)],
 elem:=[(22,60),(23,3),(24,38),(29,54),(36,44)] }
def Ci:TabL:={
 ty:=[(3,tInt),(4,.bool),(9,.str),(22,(.slice aX)),(23,(.slice tInt)),(24,(.slice tCommit)),(29,(.slice ao)),(31,am),(36,(.slice aa)),(38,tCommit),(42,aJ),(44,aa),(45,tInt),(54,ao),(60,aX)],
 cells:=[(3,1),(4,1),(9,1),(22,1),(23,1),(24,1),(29,1),(31,2),(36,1),(38,5),(42,4),(44,6),(45,1),(54,6),(60,4),(82,1)],
 offs:=[((31,0),0),((31,1),1),((38,0),0),((38,1),1),((38,2),2),((38,3),3),((38,4),4),((42,0),0),((42,1),1),((42,2),2),((42,3),3),((44,0),0),((44,1),1),((44,2),2),((54,0),0),((54,1),5),((60,0),0),((60,1),1),((60,2),2),((60,3),3)],
 one:=[(31,2)],
 inp:=[22,23,24,29,36],
 elem:=[(22,60),(23,3),(24,38),(29,54),(36,44)] }
def cF:TabOk prog eN.tab:=TabL.ok Φ
def Jv:TabOk prog Ci.tab:=TabL.ok Φ
variable{C:Type}
def ra (m:Bool)(K:Int→Option C)(f:cY C):cY C:=λl id i=>cond (i<il l) (ck (bd i l.length) (cl m (.cons aJ (.cons .bool .unit)) (bL (ix tCommit l i).2.2.2.2.1 id 1) (λr1=>cond r1.2.1 (K r1.1.1) (fz m tInt (w64 (i+1)) (λg=>f l id g))))) (K 0)
def AN (m:Bool)(K:Int→Option C)(f:cY C)(l:Λ)(id:Int):Option C:=f l id 0
def sL:Nat→cY Int:=lp (λ_ _ _=>none) λf=>ra false some f
def jl (l:Λ)(id:Int):Option Int:=AN false some (sL FU) l id
def Hg:Ent:=evE (.cons (.slice tCommit) (.cons tInt .unit)) ax (zero tInt) λx=>jl x.1 x.2.1
def Hf:MS:=⟨0,[],[(0,.dat (.slice tCommit)),(1,.dat tInt),(5,.dat tInt)]⟩
def Qc:Par:=⟨eN.tab,az [(64,i6)],λ_=>look [],λ_=>look [(2,Hf)]⟩
def abF:KT:=bg eN.tab [.tmp 4] [tInt]
def Qd (f g:Nat)(p:List Nat):Sg→KT→Option AV:=xc (bn fi0 hs0 f 0) Qc g f (sub (f32.body.getD .skip) p)
def sK (f n:Nat):cY AV:=λl id i=>aE 0 Hf (Qd f 0 [1,0,1,0,0]) (aj 0 (aL 0 none (Qd f 0 [1,1]) abF)) n ⟨mkE 27 [(0,.val (.slice tCommit) l),(1,.val tInt id),(5,.val tInt i)],mkH 0 []⟩
def TU (f g:Nat):sK f (g+1)=ra true (sm ax) (sK f g):=Φ
def TW:∀n,sK FU n=mp3 ax (sL n):=bo Φ λf _ h=>(TU FU f).trans (by rw[h];funext _ _ _;simp only[ra,ss])
def Qb:ar prog 32 (Hg):=evX func32 (S:=Qc) cF (ag ⟨l6,aoG⟩) (tys:=[tInt]) (λf x=>AN true (sm ax) (sK f f) x.1 x.2.1) (λx=>by show _=Option.map ax _;rw[TW FU];simp only[AN,jl,ss])
abbrev cG (C:Type):=Λ→(List Int)→Bool→Option C
abbrev dF (C:Type):=Λ→(List Int)→Bool→Int→Option C
abbrev gZ (C:Type):=Λ→Int→(List Int)→Bool→Int→Option C
abbrev Qh (C:Type):=Λ→Int→Int→(List Int)→Bool→Option C
def g8 (m:Bool)(K:(List Int)→Option C)(g:aB C):Ce C:=λl f i out=>fz m tInt (w64 (i+1)) λj=>g l f out j
def rc (m:Bool)(K:(List Int)→Option C)(g:aB C)(J:cG C):aB C:=λl f out i=>let b:=ix tInt f i;let a:=bd i f.length;cond (i<il f) (ck a (cl m tInt (jl l b) (λr1=>nq m [2,0] (!r1=2) (cond (cond (r1=2) true (r1=3)) (ck a (cl m (.slice tInt) (gq out b) (λj=>g8 m K g l f i j))) (g8 m K g l f i out))))) (J l out true)
def rb (m:Bool)(K:(List Int)→Option C)(f:dF C):cG C:=λl out g=>cond g (f l out false 0) (K out)
def nc (m:Bool)(K:(List Int)→Option C)(g:gZ C)(J:cG C):dF C:=λl out f i=>cond (i<il l) (g l i out f 0) (J l out f)
def e9 (m:Bool)(K:(List Int)→Option C)(f:gZ C):Qh C:=λl i p out g=>fz m tInt (w64 (p+1)) λj=>f l i out g j
def nb (m:Bool)(K:(List Int)→Option C)(g:gZ C)(p:dF C):gZ C:=λl i out j f=>let d:=bd i l.length;let c:=ix tCommit l i;let a:=ix aa c.2.2.2.2.1 f;let b:Bool:=cond (a.2.1=2) (hO out a.2.2.1.2.2.2.1) false;ck d (cond (f<il c.2.2.2.2.1) (ck d (ck (bd f c.2.2.2.2.1.length) (nq m [2,2] (a.2.1=2) (nm m 2 (a.2.1=2) (tM out a.2.2.1.2.2.2.1) (nq m [1] (a.2.1=2) (nq m [2] b (nm m 2 b (tM out a.1) (nq m [2,1] b (cond (cond b (!hO out a.1) false) (cl m (.slice tInt) (gq out a.1) (λJ=>e9 m K g l i f J true)) (e9 m K g l i f out j)))))))))) (fz m tInt (w64 (i+1)) (λr=>p l out j r)))
def AQ (m:Bool)(K:(List Int)→Option C)(g:aB C)(l:Λ)(f:(List Int)):Option C:=g l f [] 0
def g7 (J:cG (List Int))(g:dF (List Int)):Nat→gZ (List Int):=lp (λ_ _ _ _ _=>none) λf=>nb false some f g
def ku (J:cG (List Int)):Nat→dF (List Int):=lp (λ_ _ _ _=>none) λf=>nc false some (g7 J f FU) J
def m9:Nat→cG (List Int):=lp (λ_ _ _=>none) λJ=>rb false some (ku J FU)
def na:Nat→aB (List Int):=lp (λ_ _ _ _=>none) λf=>rc false some f (m9 FU)
def re (l:Λ)(f:(List Int)):Option (List Int):=AQ false some (na FU) l f
def Qm:Ent:=evE (.cons (.slice tCommit) (.cons (.slice tInt) .unit)) aq (zero (.slice tInt)) λx=>re x.1 x.2.1
def sN:MS:=⟨0,[],[(0,.dat (.slice tCommit)),(5,.dat (.slice tInt)),(8,.dat .bool)]⟩
def u0:MS:=⟨0,[],[(0,.dat (.slice tCommit)),(5,.dat (.slice tInt)),(8,.dat .bool),(9,.dat tInt)]⟩
def uZ:MS:=⟨0,[],[(0,.dat (.slice tCommit)),(5,.dat (.slice tInt)),(8,.dat .bool),(9,.dat tInt),(10,.dat tInt)]⟩
def Qn:Par:=⟨eN.tab,az [(32,Hg),(19,yB),(17,pO)],λ_=>look [(4,di),(16,uZ)],λ_=>look [(3,di),(9,sN),(12,u0),(15,uZ)]⟩
def ng:KT:=bg eN.tab [.tmp 4] [(.slice tInt)]
def dW (f g:Nat)(p:List Nat):Sg→KT→Option AV:=xc (bn fi0 hs0 f 0) Qn g f (sub (f11.body.getD .skip) p)
def sO (f n:Nat):aB AV:=λl g out i=>aE 0 di (dW f 0 [1,1,0,1,0,0]) (aj 0 (aL 0 none (dW f 0 [1,1,1]) ng)) n ⟨mkE 83 [(0,.val (.slice tCommit) l),(1,.val (.slice tInt) g),(5,.val (.slice tInt) out),(6,.val tInt i)],mkH 0 []⟩
def jm (f n:Nat):cG AV:=λl out g=>aE 0 sN (dW f 0 [1,1,1,0,1,0,0]) (aj 2 (aL 0 none (dW f 0 [1,1,1,1]) ng)) n ⟨mkE 83 [(0,.val (.slice tCommit) l),(5,.val (.slice tInt) out),(8,.val .bool g)],mkH 0 []⟩
def kr (f j n:Nat):dF AV:=λl out g i=>aE 0 u0 (dW f 0 [1,1,1,0,1,0,0,1,0,1,1,0,0]) (aj 4 (aj 3 (kLp 0 sN (dW f 0 [1,1,1,0,1,0,0]) (aj 2 (aL 0 none (dW f 0 [1,1,1,1]) ng)) j))) n ⟨mkE 83 [(0,.val (.slice tCommit) l),(5,.val (.slice tInt) out),(8,.val .bool g),(9,.val tInt i)],mkH 0 []⟩
def pa (f r p n:Nat):gZ AV:=λl i out g j=>aE 0 uZ (dW f 0 [1,1,1,0,1,0,0,1,0,1,1,0,0,1,0,0,1,0,0]) (aj 6 (aj 5 (aL 0 none (dW f 0 [1,1,1,0,1,0,0,1,0,1,1,0,0,1,1]) (kLp 0 u0 (dW f 0 [1,1,1,0,1,0,0,1,0,1,1,0,0]) (aj 4 (aj 3 (kLp 0 sN (dW f 0 [1,1,1,0,1,0,0]) (aj 2 (aL 0 none (dW f 0 [1,1,1,1]) ng)) r))) p)))) n ⟨mkE 83 [(0,.val (.slice tCommit) l),(5,.val (.slice tInt) out),(8,.val .bool g),(9,.val tInt i),(10,.val tInt j)],mkH 0 []⟩
def T1 (f g:Nat):sO f (g+1)=rc true (sm aq) (sO f g) (jm f f):=Φ
def TZ (f g:Nat):jm f (g+1)=rb true (sm aq) (kr f g f):=Φ
def Qk (f j g:Nat):kr f j (g+1)=nc true (sm aq) (pa f j g f) (jm f j):=Φ
def Qi (f l g j:Nat):pa f l g (j+1)=nb true (sm aq) (pa f l g j) (kr f l g):=Φ
variable{J:cG (List Int)}
def Qj (l g:Nat)(r:jm FU l=mp3 aq J){f:dF (List Int)}(j:kr FU l g=mp4 aq f):∀n,pa FU l g n=mp5 aq (g7 J f n):=bo Φ λp _ h=>(Qi FU l g p).trans (by rw[h,j];funext _ _ _ _ _;simp only[nb,e9,g8,ss])
def Ql (j:Nat)(f:jm FU j=mp3 aq J):∀n,kr FU j n=mp4 aq (ku J n):=bo Φ λg _ h=>(Qk FU j g).trans (by rw[Qj j g f h FU,f];funext _ _ _ _;simp only[nc,e9,g8,ss])
def T0:∀n,jm FU n=mp3 aq (m9 n):=bo Φ λf _ h=>(TZ FU f).trans (by rw[Ql f h FU];funext _ _ _;simp only[rb,e9,g8,ss])
def T2:∀n,sO FU n=mp4 aq (na n):=bo Φ λf _ h=>(T1 FU f).trans (by rw[h,T0 FU];funext _ _ _ _;simp only[rc,e9,g8,ss])
def abK:ar prog 11 (Qm):=evX func11 (S:=Qn) cF (ag ⟨Qb,Cq,sY,aoG⟩) (tys:=[(.slice tInt)]) (λf x=>AQ true (sm aq) (sO f f) x.1 x.2.1) (λx=>by show _=Option.map aq _;rw[T2 FU];simp only[AQ,re,e9,g8,ss])
abbrev ji (C:Type):=Λ→(List Int)→Int→(List Int)→Int→Option C
abbrev SX (C:Type):=Λ→(List Int)→Int→Int→(List Int)→Option C
def qG (m:Bool)(K:(List Int)→Option C)(g:ji C):aB C:=λl f out i=>cond (i<il l) (g l f i out 0) (K out)
def lN (m:Bool)(K:(List Int)→Option C)(g:ji C):SX C:=λl f i p out=>fz m tInt (w64 (p+1)) λj=>g l f i out j
def qE (m:Bool)(K:(List Int)→Option C)(g:ji C)(p:aB C):ji C:=λl f i out j=>let d:=bd i l.length;let c:=ix tCommit l i;let a:=ix aa c.2.2.2.2.1 j;let b:Bool:=cond (a.2.1=4) (! a.2.2.1.2.2.2.1=0) false;ck d (cond (j<il c.2.2.2.2.1) (ck d (ck (bd j c.2.2.2.2.1.length) (nq m [2,2,2,1] (a.2.1=4) (nq m [2] b (nm m 2 b (tM f a.1) (nq m [1] b (cond (cond b (hO f a.1) false) (cl m (.slice tInt) (gq out a.2.2.1.2.2.2.1) (λr1=>lN m K g l f i j r1)) (lN m K g l f i j out)))))))) (fz m tInt (w64 (i+1)) (λr=>p l f out r)))
def zZ (m:Bool)(K:(List Int)→Option C)(g:aB C)(l:Λ)(f:(List Int)):Option C:=g l f [] 0
def jj (g:aB (List Int)):Nat→ji (List Int):=lp (λ_ _ _ _ _=>none) λf=>qE false some f g
def sq:Nat→aB (List Int):=lp (λ_ _ _ _=>none) λf=>qG false some (jj f FU)
def qH (l:Λ)(f:(List Int)):Option (List Int):=zZ false some (sq FU) l f
def Pd:Ent:=evE (.cons (.slice tCommit) (.cons (.slice tInt) .unit)) aq (zero (.slice tInt)) λx=>qH x.1 x.2.1
def yz:MS:=⟨0,[],[(0,.dat (.slice tCommit)),(1,.dat (.slice tInt)),(5,.dat (.slice tInt)),(6,.dat tInt),(7,.dat tInt)]⟩
def Pe:Par:=⟨eN.tab,az [(17,pO),(19,yB)],λ_=>look [(7,yz)],λ_=>look [(3,di),(6,yz)]⟩
def qI (f g:Nat)(p:List Nat):Sg→KT→Option AV:=xc (bn fi0 hs0 f 0) Pe g f (sub (f42.body.getD .skip) p)
def mN (f n:Nat):aB AV:=λl g out i=>aE 0 di (qI f 0 [1,1,0,1,0,0]) (aj 0 (aL 0 none (qI f 0 [1,1,1]) ng)) n ⟨mkE 54 [(0,.val (.slice tCommit) l),(1,.val (.slice tInt) g),(5,.val (.slice tInt) out),(6,.val tInt i)],mkH 0 []⟩
def sn (f p n:Nat):ji AV:=λl g i out j=>aE 0 yz (qI f 0 [1,1,0,1,0,0,1,0,0,1,0,0]) (aj 2 (aj 1 (aL 0 none (qI f 0 [1,1,0,1,0,0,1,1]) (kLp 0 di (qI f 0 [1,1,0,1,0,0]) (aj 0 (aL 0 none (qI f 0 [1,1,1]) ng)) p)))) n ⟨mkE 54 [(0,.val (.slice tCommit) l),(1,.val (.slice tInt) g),(5,.val (.slice tInt) out),(6,.val tInt i),(7,.val tInt j)],mkH 0 []⟩
def S3 (f g:Nat):mN f (g+1)=qG true (sm aq) (sn f g f):=Φ
def SY (f g j:Nat):sn f g (j+1)=qE true (sm aq) (sn f g j) (mN f g):=Φ
def SZ (j:Nat){f:aB (List Int)}(g:mN FU j=mp4 aq f):∀n,sn FU j n=mp5 aq (jj f n):=bo Φ λl _ h=>(SY FU j l).trans (by rw[h,g];funext _ _ _ _ _;simp only[qE,lN,ss])
def S4:∀n,mN FU n=mp4 aq (sq n):=bo Φ λf _ h=>(S3 FU f).trans (by rw[SZ f h FU];funext _ _ _ _;simp only[qG,lN,ss])
def aaQ:ar prog 42 (Pd):=evX func42 (S:=Pe) cF (ag ⟨sY,Cq,aoG⟩) (tys:=[(.slice tInt)]) (λf x=>zZ true (sm aq) (mN f f) x.1 x.2.1) (λx=>by show _=Option.map aq _;rw[S4 FU];simp only[zZ,qH,lN,ss])
abbrev mT (C:Type):=Λ→(List Int)→Int→(List Int)→La'→Option C
abbrev eY (C:Type):=Λ→(List Int)→(List Int)→Int→(List Int)→La'→Option C
abbrev gW (C:Type):=Λ→(List Int)→(List Int)→Int→(List Int)→La'→Int→Int→(List Int)→(List Int)→Str→Υ→Int→Option C
abbrev PW (C:Type):=Λ→(List Int)→(List Int)→Int→Int→(List Int)→La'→Int→(List Int)→(List Int)→Str→Υ→Int→Option C
def qU (m:Bool)(K:am.den→Option C)(p:mT C)(J:eY C):mT C:=λl f i j g=>cond (i<il f) (ck (bd i f.length) (cl m (.slice tInt) (gq j (ix tInt f i)) (λr1=>fz m tInt (w64 (i+1)) λr=>p l f r r1 g))) (cl m (.slice tInt) (re l f) (λP=>cl m (.slice tInt) (qH l P) λR=>J l P R 0 j g))
def qT (m:Bool)(K:am.den→Option C)(j:gW C):eY C:=λl T R i g f=>let a:=ix tCommit l i;cond (i<il l) (ck (bd i l.length) (fz m tInt a.1 (λP=>fz m (.slice tInt) a.2.1 λJ=>fz m (.slice tInt) a.2.2.1 λr=>fz m .str a.2.2.2.1 λp=>j l T R i g f 0 P J r p [] 0))) (K (g,f,()))
def gJ (m:Bool)(K:am.den→Option C)(f:gW C):PW C:=λl r2 r3 i t11 T R P J r p j g=>fz m tInt (w64 (t11+1)) λU=>f l r2 r3 i T R U P J r p j g
def VZ (g:Λ)(f:Int):Bool:=(jl g f).isSome
def dg (g:Λ)(f:Int):Int:=(jl g f).getD (zero tInt)
def mW (m:Bool)(K:am.den→Option C)(k_l14:gW C)(J:eY C):gW C:=λl r2 r3 i b1_0 b1_1 t11 U T R P p r=>let k:=bd i l.length;let e:=ix tCommit l i;let a:=ix aa e.2.2.2.2.1 t11;let h:=cond (a.2.1=1) true (a.2.1=2);let b:Bool:=cond (a.2.1≤3) (!dg l a.1=5) false;ck k (cond (t11<il e.2.2.2.2.1) (ck k (ck (bd t11 e.2.2.2.2.1.length) (cl m .bool (lw r2 a.1) (λr4=>let j:Bool:=!cond r4 true b&&! a.2.1=1;let g:Bool:=!r4&&a.2.1≤3;let f:Bool:=!cond r4 true b&&!cond (a.2.1=1) true (a.2.1=2);let d:Bool:=!cond r4 true b;let c:Bool:=!cond r4 true b&&cond h true (a.2.1=4);nq m [2,2,2] (!r4) (nq m [2] g (nm m 2 g (VZ l a.1) (nq m [2] g (nm m 0 (!r4) (ii g&&true) (nq m [0] (!r4) (nq m [2,2,2] d (nq m [2,2] j (nm m 0 d (ii j) (nq m [2] d (nq m [2,2] f (nm m 0 d (ii f) (nq m [2] d (nq m [2] c (nm m 2 c (tM r3 a.1) (nm m 0 d (ii c&&true) (nq m [0] d (cond (cond (cond r4 true b) true (cond (cond h true (a.2.1=4)) (hO r3 a.1) false)) (ck (lm (List.length p+List.length ([ix aa e.2.2.2.2.1 t11]:List aa.den))) (fz m (.slice aa) (p++[ix aa e.2.2.2.2.1 t11]) (λy11_=>gJ m K k_l14 l r2 r3 i t11 b1_0 b1_1 U T R P y11_ r))) (fz m tInt (w64 (r+1)) (λy12_=>gJ m K k_l14 l r2 r3 i t11 b1_0 b1_1 U T R P p y12_))))))))))))))))))))))) (ck (lm (List.length b1_1+List.length ([((U,T,R,P,p,()),r,())]:List ao.den))) (fz m tInt (w64 (i+1)) (λy3_=>fz m (.slice ao) (b1_1++[((U,T,R,P,p,()),r,())]) λy5_=>J l r2 r3 y3_ b1_0 y5_))))
def AH (m:Bool)(K:am.den→Option C)(g:mT C)(l:Λ)(f:(List Int)):Option C:=g l f 0 [] []
def km (J:eY am.den):Nat→gW am.den:=lp (λ_ _ _ _ _ _ _ _ _ _ _ _ _=>none) λf=>mW false some f J
def mV:Nat→eY am.den:=lp (λ_ _ _ _ _ _=>none) λJ=>qT false some (km J FU)
def sH:Nat→mT am.den:=lp (λ_ _ _ _ _=>none) λf=>qU false some f (mV FU)
def qV (l:Λ)(f:(List Int)):Option am.den:=AH false some (sH FU) l f
def fZ (r:am.den):AV :=.val am r
def PZ:Ent:=evE (.cons (.slice tCommit) (.cons (.slice tInt) .unit)) fZ (zero am) λx=>qV x.1 x.2.1
def G2:MS:=⟨2,[(0,[.own tInt 3,.own ao 54]),(1,[.dat (.slice tInt),.own ao 54])],[(0,.dat (.slice tCommit)),(1,.dat (.slice tInt)),(4,.keep),(5,.keep),(6,.dat tInt)]⟩
def yL:MS:=⟨2,[(0,[.own tInt 3,.own ao 54]),(1,[.dat (.slice tInt),.own ao 54])],[(0,.dat (.slice tCommit)),(4,.keep),(5,.keep),(7,.dat (.slice tInt)),(8,.dat (.slice tInt)),(9,.dat tInt)]⟩
def uR:MS:=⟨15,[(0,[.own tInt 3,.own ao 54]),(1,[.dat (.slice tInt),.own ao 54]),(14,[.dat tInt,.dat (.slice tInt),.dat (.slice tInt),.dat .str,.own aa 44,.dat tInt])],[(0,.dat (.slice tCommit)),(4,.keep),(5,.keep),(7,.dat (.slice tInt)),(8,.dat (.slice tInt)),(9,.dat tInt),(10,.keep),(11,.dat tInt)]⟩
def P0:Par:=⟨eN.tab,az [(19,yB),(11,Qm),(42,Pd),(17,pO),(32,Hg)],λ_=>look [(15,uR)],λ_=>look [(3,G2),(9,yL),(14,uR)]⟩
def G3:KT:=bg eN.tab [.cell 4 31] [am]
def iO (f g:Nat)(p:List Nat):Sg→KT→Option AV:=xc (bn fi0 hs0 f 0) P0 g f (sub (f14.body.getD .skip) p)
def sG (f n:Nat):mT AV:=λl g i p j=>aE 0 G2 (iO f 0 [1,1,0,1,0,0]) (aj 0 (aL 0 none (iO f 0 [1,1,1]) G3)) n ⟨mkE 120 [(0,.val (.slice tCommit) l),(1,.val (.slice tInt) g),(4,.box 0 0),(5,.box 1 0),(6,.val tInt i)],mkH 5 [(0,.box [.own 2 0 tInt [],.own 3 0 ao []]),(1,.box [.val (.slice tInt) p,.own 4 0 ao j]),(2,.row tInt 3 0),(3,.row ao 54 0),(4,.row ao 54 0)]⟩
def mU (f n:Nat):eY AV:=λl r p i j g=>aE 0 yL (iO f 0 [1,1,1,1,1,0,1,0,0]) (aj 2 (aL 0 none (iO f 0 [1,1,1,1,1,1]) G3)) n ⟨mkE 120 [(0,.val (.slice tCommit) l),(4,.box 0 0),(5,.box 1 0),(7,.val (.slice tInt) r),(8,.val (.slice tInt) p),(9,.val tInt i)],mkH 5 [(0,.box [.own 2 0 tInt [],.own 3 0 ao []]),(1,.box [.val (.slice tInt) j,.own 4 0 ao g]),(2,.row tInt 3 0),(3,.row ao 54 0),(4,.row ao 54 0)]⟩
def o7 (f n9 n:Nat):gW AV:=λl r2 U i R P T J C r p j g=>aE 0 uR (iO f 0 [1,1,1,1,1,0,1,0,0,1,0,0,1,1,0,1,0,0]) (aj 4 (aL 0 none (iO f 0 [1,1,1,1,1,0,1,0,0,1,0,0,1,1,1]) (aj 3 (aL 0 none (iO f 0 [1,1,1,1,1,0,1,0,0,1,1]) (kLp 0 yL (iO f 0 [1,1,1,1,1,0,1,0,0]) (aj 2 (aL 0 none (iO f 0 [1,1,1,1,1,1]) G3)) n9))))) n ⟨mkE 120 [(0,.val (.slice tCommit) l),(4,.box 0 0),(5,.box 1 0),(7,.val (.slice tInt) r2),(8,.val (.slice tInt) U),(9,.val tInt i),(10,.box 14 0),(11,.val tInt T)],mkH 19 [(0,.box [.own 15 0 tInt [],.own 16 0 ao []]),(1,.box [.val (.slice tInt) R,.own 17 0 ao P]),(2,.row tInt 3 1),(3,.row ao 54 1),(4,.row ao 54 1),(14,.box [.val tInt J,.val (.slice tInt) C,.val (.slice tInt) r,.val .str p,.own 18 0 aa j,.val tInt g]),(15,.row tInt 3 0),(16,.row ao 54 0),(17,.row ao 54 0),(18,.row aa 44 0)]⟩
def TL (f g:Nat):sG f (g+1)=qU true (sm fZ) (sG f g) (mU f f):=Φ
def TJ (f g:Nat):mU f (g+1)=qT true (sm fZ) (o7 f g f):=Φ
def PX (f j g:Nat):o7 f j (g+1)=mW true (sm fZ) (o7 f j g) (mU f j):=Φ
def PY (g:Nat){J:eY am.den}(f:mU FU g=mp6 fZ J):∀n,o7 FU g n=aiO fZ (km J n):=bo Φ λj _ h=>(PX FU g j).trans (by rw[h,f];funext _ _ _ _ _ _ _ _ _ _ _ _ _;simp only[mW,gJ,m13,ss])
def TK:∀n,mU FU n=mp6 fZ (mV n):=bo Φ λf _ h=>(TJ FU f).trans (by rw[PY f h FU];funext _ _ _ _ _ _;simp only[qT,gJ,m13,ss])
def TM:∀n,sG FU n=mp5 fZ (sH n):=bo Φ λf _ h=>(TL FU f).trans (by rw[h,TK FU];funext _ _ _ _ _;simp only[qU,gJ,m13,ss])
def abv:ar prog 14 (PZ):=evX func14 (S:=P0) cF (ag ⟨Cq,abK,aaQ,sY,Qb,aoG⟩) (tys:=[am]) (λf x=>AH true (sm fZ) (sG f f) x.1 x.2.1) (λx=>by show _=Option.map fZ _;rw[TM FU];simp only[AH,qV,gJ,m13,ss])
abbrev qw (C:Type):=(List Int)→(List Int)→Int→Option C
def mE (m:Bool)(K:Bool→Option C)(f:qw C):qw C:=λa b i=>cond (i<il a) (ck (bd i a.length) (ck (bd i b.length) (cond (!ix tInt a i=ix tInt b i) (K false) (fz m tInt (w64 (i+1)) (λg=>f a b g))))) (K true)
def zQ (m:Bool)(K:Bool→Option C)(f:qw C)(a:(List Int))(b:(List Int)):Option C:=cond (!il a=il b) (K false) (f a b 0)
def lJ:Nat→qw Bool:=lp (λ_ _ _=>none) λf=>mE false some f
def fT (a:(List Int))(b:(List Int)):Option Bool:=zQ false some (lJ FU) a b
def Eo:Ent:=evE (.cons (.slice tInt) (.cons (.slice tInt) .unit)) ac (zero .bool) λx=>fT x.1 x.2.1
def JF:MS:=⟨0,[],[(0,.dat (.slice tInt)),(1,.dat (.slice tInt)),(5,.dat tInt)]⟩
def Vl:Par:=⟨eN.tab,az [],λ_=>look [],λ_=>look [(4,JF)]⟩
def zR:KT:=bg eN.tab [.tmp 4] [.bool]
def Vm (f g:Nat)(p:List Nat):Sg→KT→Option AV:=xc (bn fi0 hs0 f 0) Vl g f (sub (f9.body.getD .skip) p)
def wj (f n:Nat):qw AV:=λa b i=>aE 0 JF (Vm f 0 [1,1,0,1,0,0]) (aj 0 (aL 0 none (Vm f 0 [1,1,1]) zR)) n ⟨mkE 26 [(0,.val (.slice tInt) a),(1,.val (.slice tInt) b),(5,.val tInt i)],mkH 0 []⟩
def XK (f g:Nat):wj f (g+1)=mE true (sm ac) (wj f g):=Φ
def XL:∀n,wj FU n=mp3 ac (lJ n):=bo Φ λf _ h=>(XK FU f).trans (by rw[h];funext _ _ _;simp only[mE,ss])
def LL:ar prog 9 (Eo):=evX func9 (S:=Vl) cF (ag trivial) (tys:=[.bool]) (λf x=>zQ true (sm ac) (wj f f) x.1 x.2.1) (λx=>by show _=Option.map ac _;rw[XL FU];simp only[zQ,fT,ss])
abbrev qy (C:Type):=tCommit.den→tCommit.den→Int→Option C
def uo (m:Bool)(K:Bool→Option C)(f:qy C):qy C:=λa b i=>cond (i<il a.2.2.2.2.1) (ck (bd i a.2.2.2.2.1.length) (ck (bd i b.2.2.2.2.1.length) (cond (!eqD aa (ix aa a.2.2.2.2.1 i) (ix aa b.2.2.2.2.1 i)) (K false) (fz m tInt (w64 (i+1)) (λg=>f a b g))))) (K true)
def Cn (g:(List Int))(f:(List Int)):Bool:=(fT g f).isSome
def jf (g:(List Int))(f:(List Int)):Bool:=(fT g f).getD (zero .bool)
def Ep (m:Bool)(K:Bool→Option C)(j:qy C)(a:tCommit.den)(b:tCommit.den):Option C:=let h:Bool:=!jf a.2.2.1 b.2.2.1;let g:Bool:=!a.2.2.2.1=b.2.2.2.1;let e:Bool:=!jf a.2.1 b.2.1;let d:Bool:=!cond (!a.1=b.1) true g;let c:=cond (!a.1=b.1) true g;let i:=cond c true e;let f:Bool:=!cond c true e;nq m [2,2,3,0] (!!a.1=b.1) (nq m [2,2] d (nm m 2 d (Cn a.2.1 b.2.1) (nq m [2,0] d (nq m [2,2] f (nm m 2 f (Cn a.2.2.1 b.2.2.1) (nq m [2,0] f (nq m [2,2,2,2,3,0] (!cond i true h) (cond (cond (cond i true h) true (!il a.2.2.2.2.1=il b.2.2.2.2.1)) (K false) (j a b 0)))))))))
def wn:Nat→qy Bool:=lp (λ_ _ _=>none) λf=>uo false some f
def mG (a:tCommit.den)(b:tCommit.den):Option Bool:=Ep false some (wn FU) a b
def LN:Ent:=evE (.cons tCommit (.cons tCommit .unit)) ac (zero .bool) λx=>mG x.1 x.2.1
def JH:MS:=⟨2,[(0,[.dat tInt,.dat (.slice tInt),.dat (.slice tInt),.dat .str,.dat (.slice aa)]),(1,[.dat tInt,.dat (.slice tInt),.dat (.slice tInt),.dat .str,.dat (.slice aa)])],[(2,.keep),(3,.keep),(5,.dat tInt)]⟩
def Vo:Par:=⟨eN.tab,az [(9,Eo)],λ_=>look [],λ_=>look [(4,JH)]⟩
def Vp (f g:Nat)(p:List Nat):Sg→KT→Option AV:=xc (bn fi0 hs0 f 0) Vo g f (sub (f33.body.getD .skip) p)
def wm (f n:Nat):qy AV:=λa b i=>aE 0 JH (Vp f 0 [1,1,0,1,0,0]) (aj 0 (aL 0 none (Vp f 0 [1,1,1]) zR)) n ⟨mkE 61 [(2,.box 0 0),(3,.box 1 0),(5,.val tInt i)],mkH 2 [(0,.box [.val tInt a.1,.val (.slice tInt) a.2.1,.val (.slice tInt) a.2.2.1,.val .str a.2.2.2.1,.val (.slice aa) a.2.2.2.2.1]),(1,.box [.val tInt b.1,.val (.slice tInt) b.2.1,.val (.slice tInt) b.2.2.1,.val .str b.2.2.2.1,.val (.slice aa) b.2.2.2.2.1])]⟩
def XM (f g:Nat):wm f (g+1)=uo true (sm ac) (wm f g):=Φ
def XN:∀n,wm FU n=mp3 ac (wn n):=bo Φ λf _ h=>(XM FU f).trans (by rw[h];funext _ _ _;simp only[uo,ss])
def Vn:ar prog 33 (LN):=evX func33 (S:=Vo) cF (ag ⟨LL,aoG⟩) (tys:=[.bool]) (λf x=>Ep true (sm ac) (wm f f) x.1 x.2.1) (λx=>by show _=Option.map ac _;rw[XN FU];simp only[Ep,mG,ss])
abbrev mF (C:Type):=Λ→Λ→Int→Option C
def qx (m:Bool)(K:Bool→Option C)(f:mF C):mF C:=λa b i=>cond (i<il a) (ck (bd i a.length) (ck (bd i b.length) (cl m .bool (mG (ix tCommit a i) (ix tCommit b i)) (λr1=>cond (!r1) (K false) (fz m tInt (w64 (i+1)) (λg=>f a b g)))))) (K true)
def zS (m:Bool)(K:Bool→Option C)(f:mF C)(a:Λ)(b:Λ):Option C:=cond (!il a=il b) (K false) (f a b 0)
def sd:Nat→mF Bool:=lp (λ_ _ _=>none) λf=>qx false some f
def lK (a:Λ)(b:Λ):Option Bool:=zS false some (sd FU) a b
def OR:Ent:=evE (.cons (.slice tCommit) (.cons (.slice tCommit) .unit)) ac (zero .bool) λx=>lK x.1 x.2.1
def FI:MS:=⟨0,[],[(0,.dat (.slice tCommit)),(1,.dat (.slice tCommit)),(5,.dat tInt)]⟩
def OS:Par:=⟨eN.tab,az [(33,LN)],λ_=>look [],λ_=>look [(4,FI)]⟩
def OT (f g:Nat)(p:List Nat):Sg→KT→Option AV:=xc (bn fi0 hs0 f 0) OS g f (sub (f24.body.getD .skip) p)
def sa (f n:Nat):mF AV:=λa b i=>aE 0 FI (OT f 0 [1,1,0,1,0,0]) (aj 0 (aL 0 none (OT f 0 [1,1,1]) zR)) n ⟨mkE 27 [(0,.val (.slice tCommit) a),(1,.val (.slice tCommit) b),(5,.val tInt i)],mkH 0 []⟩
def SK (f g:Nat):sa f (g+1)=qx true (sm ac) (sa f g):=Φ
def SL:∀n,sa FU n=mp3 ac (sd n):=bo Φ λf _ h=>(SK FU f).trans (by rw[h];funext _ _ _;simp only[qx,ss])
def aaH:ar prog 24 (OR):=evX func24 (S:=OS) cF (ag ⟨Vn,aoG⟩) (tys:=[.bool]) (λf x=>zS true (sm ac) (sa f f) x.1 x.2.1) (λx=>by show _=Option.map ac _;rw[SL FU];simp only[zS,lK,ss])
abbrev mH (C:Type):=am.den→am.den→Int→Option C
def aaI (g:tCommit.den)(f:tCommit.den):Bool:=(mG g f).isSome
def aaJ (g:tCommit.den)(f:tCommit.den):Bool:=(mG g f).getD (zero .bool)
def qz (m:Bool)(K:Bool→Option C)(j:mH C):mH C:=λa b i=>let g:=bd i b.2.1.length;let f:=bd i a.2.1.length;let e:=ix ao b.2.1 i;let d:=ix ao a.2.1 i;let c:Bool:=!! d.2.1=e.2.1;cond (i<il a.2.1) (ck f (ck g (nq m [2] c (nm m 2 c f (nq m [2,2,2] c (nm m 2 c g (nq m [2,2] c (nm m 2 c (aaI d.1 e.1) (nq m [2,0] c (cond (cond (! d.2.1=e.2.1) true (!aaJ d.1 e.1)) (K false) (fz m tInt (w64 (i+1)) (λl=>j a b l)))))))))))) (K true)
def zU (m:Bool)(K:Bool→Option C)(f:mH C)(a:am.den)(b:am.den):Option C:=cl m .bool (fT a.1 b.1) λr1=>nq m [2,2,2,2,3,0] (!!r1) (cond (cond (!r1) true (!il a.2.1=il b.2.1)) (K false) (f a b 0))
def sg:Nat→mH Bool:=lp (λ_ _ _=>none) λf=>qz false some f
def lL (a:am.den)(b:am.den):Option Bool:=zU false some (sg FU) a b
def OU:Ent:=evE (.cons am (.cons am .unit)) ac (zero .bool) λx=>lL x.1 x.2.1
def FL:MS:=⟨2,[(0,[.dat (.slice tInt),.dat (.slice ao)]),(1,[.dat (.slice tInt),.dat (.slice ao)])],[(2,.keep),(3,.keep),(5,.dat tInt)]⟩
def OV:Par:=⟨eN.tab,az [(9,Eo),(33,LN)],λ_=>look [],λ_=>look [(4,FL)]⟩
def OW (f g:Nat)(p:List Nat):Sg→KT→Option AV:=xc (bn fi0 hs0 f 0) OV g f (sub (f12.body.getD .skip) p)
def se (f n:Nat):mH AV:=λa b i=>aE 0 FL (OW f 0 [1,1,0,1,0,0]) (aj 0 (aL 0 none (OW f 0 [1,1,1]) zR)) n ⟨mkE 57 [(2,.box 0 0),(3,.box 1 0),(5,.val tInt i)],mkH 2 [(0,.box [.val (.slice tInt) a.1,.val (.slice ao) a.2.1]),(1,.box [.val (.slice tInt) b.1,.val (.slice ao) b.2.1])]⟩
def SN (f g:Nat):se f (g+1)=qz true (sm ac) (se f g):=Φ
def SO:∀n,se FU n=mp3 ac (sg n):=bo Φ λf _ h=>(SN FU f).trans (by rw[h];funext _ _ _;simp only[qz,ss])
def aaK:ar prog 12 (OU):=evX func12 (S:=OV) cF (ag ⟨LL,Vn,aoG⟩) (tys:=[.bool]) (λf x=>zU true (sm ac) (se f f) x.1 x.2.1) (λx=>by show _=Option.map ac _;rw[SO FU];simp only[zU,lL,ss])
abbrev iW (C:Type):=ao.den→tCommit.den→Int→Option C
def kK (m:Bool)(K:Bool→Option C)(f:iW C):iW C:=λp c i=>let a:=ix aa p.1.2.2.2.2.1 i;cond (i<il p.1.2.2.2.2.1) (ck (bd i p.1.2.2.2.2.1.length) (cl m (.cons aJ (.cons .bool .unit)) (bL c.2.2.2.2.1 a.1 a.2.1) (λj=>nq m [2,3,0] (!!j.2.1) (cond (cond (!j.2.1) true (!eqD aJ j.1 a.2.2.1)) (K false) (fz m tInt (w64 (i+1)) (λg=>f p c g)))))) (K true)
def tD (m:Bool)(K:Bool→Option C)(f:iW C)(p:ao.den)(c:tCommit.den):Option C:=let b:Bool:=!p.1.2.2.2.1=c.2.2.2.1;let a:Bool:=!jf p.1.2.2.1 c.2.2.1;cl m .bool (fT p.1.2.1 c.2.1) λr1=>let e:Bool:=!!r1;let d:=cond (!r1) true a;nq m [2,2,2] e (nm m 2 e (Cn p.1.2.2.1 c.2.2.1) (nq m [2,0] e (nq m [2,2,2,3,0] (!cond (!r1) true a) (nq m [2,2,2,2,2,2,3,3,0] (!cond d true b) (cond (cond (cond d true b) true (!p.2.1=w64 (il c.2.2.2.2.1-il p.1.2.2.2.2.1))) (K false) (f p c 0))))))
def lG:Nat→iW Bool:=lp (λ_ _ _=>none) λf=>kK false some f
def kL (p:ao.den)(c:tCommit.den):Option Bool:=tD false some (lG FU) p c
def Io:Ent:=evE (.cons ao (.cons tCommit .unit)) ac (zero .bool) λx=>kL x.1 x.2.1
def B8:MS:=⟨2,[(0,[.dat tInt,.dat (.slice tInt),.dat (.slice tInt),.dat .str,.dat (.slice aa),.dat tInt]),(1,[.dat tInt,.dat (.slice tInt),.dat (.slice tInt),.dat .str,.dat (.slice aa)])],[(2,.keep),(3,.keep),(5,.dat tInt)]⟩
def Ip:Par:=⟨eN.tab,az [(9,Eo),(64,i6)],λ_=>look [],λ_=>look [(4,B8)]⟩
def Iq (f g:Nat)(p:List Nat):Sg→KT→Option AV:=xc (bn fi0 hs0 f 0) Ip g f (sub (f46.body.getD .skip) p)
def lF (f n:Nat):iW AV:=λp c i=>aE 0 B8 (Iq f 0 [1,1,0,1,0,0]) (aj 0 (aL 0 none (Iq f 0 [1,1,1]) zR)) n ⟨mkE 78 [(2,.box 0 0),(3,.box 1 0),(5,.val tInt i)],mkH 2 [(0,.box [.val tInt p.1.1,.val (.slice tInt) p.1.2.1,.val (.slice tInt) p.1.2.2.1,.val .str p.1.2.2.2.1,.val (.slice aa) p.1.2.2.2.2.1,.val tInt p.2.1]),(1,.box [.val tInt c.1,.val (.slice tInt) c.2.1,.val (.slice tInt) c.2.2.1,.val .str c.2.2.2.1,.val (.slice aa) c.2.2.2.2.1])]⟩
def NB (f g:Nat):lF f (g+1)=kK true (sm ac) (lF f g):=Φ
def NC:∀n,lF FU n=mp3 ac (lG n):=bo Φ λf _ h=>(NB FU f).trans (by rw[h];funext _ _ _;simp only[kK,ss])
def UW:ar prog 46 (Io):=evX func46 (S:=Ip) cF (ag ⟨LL,l6,aoG⟩) (tys:=[.bool]) (λf x=>tD true (sm ac) (lF f f) x.1 x.2.1) (λx=>by show _=Option.map ac _;rw[NC FU];simp only[tD,kL,ss])
abbrev nJ:=(Ty.den (.cons am (.cons tInt .unit)))
abbrev gK (C:Type):=Λ→am.den→Int→(List Int)→La'→Option C
abbrev QO (C:Type):=Λ→Int→am.den→(List Int)→La'→Int→(List Int)→(List Int)→Str→Υ→Int→Option C
abbrev Ut (C:Type):=Λ→Int→am.den→(List Int)→La'→Option C
def w8 (m:Bool)(K:nJ→Option C)(f:gK C):Ut C:=λl i c j g=>fz m tInt (w64 (i+1)) λp=>f l c p j g
def nH (m:Bool)(K:nJ→Option C)(R:gK C):QO C:=λl i c T P J r p j g f=>ck (lm (List.length P+List.length ([((J,r,p,j,g,()),f,())]:List ao.den))) (fz m (.slice ao) (P++[((J,r,p,j,g,()),f,())]) (λU=>w8 m K R l i c T U))
def rn (m:Bool)(K:nJ→Option C)(j:gK C):gK C:=λl c i g f=>let a:=ix ao c.2.1 i;cond (i<il c.2.1) (ck (bd i c.2.1.length) (cl m (.cons tCommit (.cons .bool .unit)) (jp l a.1.1) (λr1=>cond r1.2.1 (cl m .bool (kL a r1.1) (λU=>cond (!U) (K (([],[],()),(8:Int),())) (nH m K j l i c g f r1.1.1 r1.1.2.1 r1.1.2.2.1 r1.1.2.2.2.1 r1.1.2.2.2.2.1 0))) (fz m tInt a.1.1 (λT=>fz m (.slice tInt) a.1.2.1 λR=>fz m (.slice tInt) a.1.2.2.1 λP=>fz m .str a.1.2.2.2.1 λJ=>fz m (.slice aa) a.1.2.2.2.2.1 λr=>fz m tInt a.2.1 λp=>nH m K j l i c g f T R P J r p))))) (K ((g,f,()),(0:Int),()))
def Bu (m:Bool)(K:nJ→Option C)(f:gK C)(c:am.den)(l:Λ):Option C:=fz m (.slice tInt) c.1 λg=>f l c 0 g []
def nG:Nat→gK nJ:=lp (λ_ _ _ _ _=>none) λf=>rn false some f
def jt (c:am.den)(l:Λ):Option nJ:=Bu false some (nG FU) c l
def vn (r:nJ):AV :=.tup (cm [.val am r.1,.val tInt r.2.1])
def QQ:Ent:=evE (.cons am (.cons (.slice tCommit) .unit)) vn (zero (.cons am (.cons tInt .unit))) λx=>jt x.1 x.2.1
def yQ:MS:=⟨7,[(0,[.dat (.slice tInt),.dat (.slice ao)]),(1,[.own tInt 3,.own ao 54]),(6,[.dat (.slice tInt),.own ao 54])],[(1,.dat (.slice tCommit)),(2,.keep),(4,.keep),(6,.keep),(7,.dat tInt)]⟩
def QP:MS:=⟨21,[(0,[.dat (.slice tInt),.dat (.slice ao)]),(1,[.own tInt 3,.own ao 54]),(6,[.dat (.slice tInt),.own ao 54]),(20,[.dat tInt,.dat (.slice tInt),.dat (.slice tInt),.dat .str,.dat (.slice aa),.dat tInt])],[(1,.dat (.slice tCommit)),(2,.keep),(4,.keep),(6,.keep),(7,.dat tInt),(8,.keep)]⟩
def QR:Par:=⟨eN.tab,az [(45,Bp),(46,Io)],λ_=>look [(11,QP),(4,yQ)],λ_=>look [(3,yQ)]⟩
def acl:KT:=bg eN.tab [.cell 4 31,.tmp 5] [am,tInt]
def QS (f g:Nat)(p:List Nat):Sg→KT→Option AV:=xc (bn fi0 hs0 f 0) QR g f (sub (f21.body.getD .skip) p)
def th (f n:Nat):gK AV:=λl c i j g=>aE 0 yQ (QS f 0 [1,1,0,1,0,0]) (aj 0 (aL 0 none (QS f 0 [1,1,1]) acl)) n ⟨mkE 49 [(1,.val (.slice tCommit) l),(2,.box 0 0),(4,.box 1 0),(6,.box 6 0),(7,.val tInt i)],mkH 10 [(0,.box [.val (.slice tInt) c.1,.val (.slice ao) c.2.1]),(1,.box [.own 7 0 tInt [],.own 8 0 ao []]),(6,.box [.val (.slice tInt) j,.own 9 0 ao g]),(7,.row tInt 3 0),(8,.row ao 54 0),(9,.row ao 54 0)]⟩
def Uu (f g:Nat):th f (g+1)=rn true (sm vn) (th f g):=Φ
def Uv:∀n,th FU n=mp5 vn (nG n):=bo Φ λf _ h=>(Uu FU f).trans (by rw[h];funext _ _ _ _ _;simp only[rn,nH,w8,ss])
def ack:ar prog 21 (QQ):=evX func21 (S:=QR) cF (ag ⟨HC,UW,aoG⟩) (tys:=[am,tInt]) (λf x=>Bu true (sm vn) (th f f) x.1 x.2.1) (λx=>by show _=Option.map vn _;rw[Uv FU];simp only[Bu,jt,nH,w8,ss])
abbrev dc (C:Type):=am.den→Λ→Int→Option C
def rq (m:Bool)(K:br→Option C)(f:dc C):dc C:=λc l i=>let a:=ix ao c.2.1 i;cond (i<il c.2.1) (ck (bd i c.2.1.length) (ck (lm (List.length l+List.length ([a.1]:List tCommit.den))) (fz m (.slice tCommit) (l++[a.1]) (λj=>fz m tInt (w64 (i+1)) λg=>f c j g)))) (K l)
def BN (m:Bool)(K:br→Option C)(f:dc C)(c:am.den):Option C:=f c [] 0
def tp:Nat→dc br:=lp (λ_ _ _=>none) λf=>rq false some f
def xf (c:am.den):Option br:=BN false some (tp FU) c
def Rm:Ent:=evE (.cons am .unit) bi (zero (.slice tCommit)) λx=>xf x.1
def H3:MS:=⟨1,[(0,[.dat (.slice tInt),.dat (.slice ao)])],[(1,.keep),(3,.own tCommit 38),(4,.dat tInt)]⟩
def Rn:Par:=⟨eN.tab,az [],λ_=>look [],λ_=>look [(3,H3)]⟩
def Ro:KT:=bg eN.tab [.tmp 2] [(.slice tCommit)]
def Rp (f g:Nat)(p:List Nat):Sg→KT→Option AV:=xc (bn fi0 hs0 f 0) Rn g f (sub (f48.body.getD .skip) p)
def tn (f n:Nat):dc AV:=λc l i=>aE 0 H3 (Rp f 0 [1,1,0,1,0,0]) (aj 0 (aL 0 none (Rp f 0 [1,1,1]) Ro)) n ⟨mkE 22 [(1,.box 0 0),(3,.own 1 0 tCommit l),(4,.val tInt i)],mkH 2 [(0,.box [.val (.slice tInt) c.1,.val (.slice ao) c.2.1]),(1,.row tCommit 38 0)]⟩
def UJ (f g:Nat):tn f (g+1)=rq true (sm bi) (tn f g):=Φ
def UK:∀n,tn FU n=mp3 bi (tp n):=bo Φ λf _ h=>(UJ FU f).trans (by rw[h];funext _ _ _;simp only[rq,ss])
def acW:ar prog 48 (Rm):=evX func48 (S:=Rn) cF (ag trivial) (tys:=[(.slice tCommit)]) (λf x=>BN true (sm bi) (tn f f) x.1) (λx=>by show _=Option.map bi _;rw[UK FU];simp only[BN,xf,ss])
abbrev d7:=Ty.den (.cons (.slice tCommit) (.cons .bool .unit))
abbrev cq (C:Type):=am.den→Int→Option C
def mg (m:Bool)(K:d7→Option C)(f:cq C):cq C:=λc i=>cond (i<il c.2.1) (ck (bd i c.2.1.length) (cond (!(ix ao c.2.1 i).2.1=0) (K ([],false,())) (fz m tInt (w64 (i+1)) (λg=>f c g)))) (cl m (.slice tCommit) (xf c) (λr1=>K (r1,true,())))
def vQ (m:Bool)(K:d7→Option C)(f:cq C)(c:am.den):Option C:=f c 0
def oC:Nat→cq d7:=lp (λ_ _=>none) λf=>mg false some f
def gy (c:am.den):Option d7:=vQ false some (oC FU) c
def dZ (r:d7):AV :=.tup (cm [.val (.slice tCommit) r.1,.val .bool r.2.1])
def Jf:Ent:=evE (.cons am .unit) dZ (zero (.cons (.slice tCommit) (.cons .bool .unit))) λx=>gy x.1
def De:MS:=⟨1,[(0,[.dat (.slice tInt),.dat (.slice ao)])],[(1,.keep),(4,.dat tInt)]⟩
def Jg:Par:=⟨eN.tab,az [(48,Rm)],λ_=>look [],λ_=>look [(2,De)]⟩
def Jh:KT:=bg eN.tab [.tmp 2,.tmp 3] [.slice tCommit,.bool]
def Ji (f g:Nat)(p:List Nat):Sg→KT→Option AV:=xc (bn fi0 hs0 f 0) Jg g f (sub (f23.body.getD .skip) p)
def oA (f n:Nat):cq AV:=λc i=>aE 0 De (Ji f 0 [1,0,1,0,0]) (aj 0 (aL 0 none (Ji f 0 [1,1]) Jh)) n ⟨mkE 21 [(1,.box 0 0),(4,.val tInt i)],mkH 1 [(0,.box [.val (.slice tInt) c.1,.val (.slice ao) c.2.1])]⟩
def NY (f g:Nat):oA f (g+1)=mg true (sm dZ) (oA f g):=Φ
def NZ:∀n,oA FU n=mp2 dZ (oC n):=bo Φ λf _ h=>(NY FU f).trans (by rw[h];funext _ _;simp only[mg,ss])
def Xc:ar prog 23 (Jf):=evX func23 (S:=Jg) cF (ag ⟨acW,aoG⟩) (tys:=[(.slice tCommit),.bool]) (λf x=>vQ true (sm dZ) (oA f f) x.1) (λx=>by show _=Option.map dZ _;rw[NZ FU];simp only[vQ,gy,ss])
def qq (m:Bool)(K:(List Int)→Option C)(f:aB C):Ce C:=λl x i out=>fz m tInt (w64 (i+1)) λg=>f l x out g
def ui (m:Bool)(K:(List Int)→Option C)(f:aB C):aB C:=λl x out i=>let c:=ix tInt x i;let b:=bd i x.length;nq m [2,1] (i<il x) (cond (cond (i<il x) (i<6) false) (ck b (cl m tInt (mod2_ev c 17) (λr1=>cond (r1=16) (ck (lm (List.length out+List.length ([9437189]:List Int))) (fz m (.slice tInt) (out++[9437189]) (λg=>qq m K f l x i g))) (cond (il l>0) (ck b (cl m tInt (mod2_ev c (il l)) (λj=>let a:=ix tCommit l j;ck (bd j l.length) (ck (lm (List.length out+List.length ([a.1]:List Int))) (fz m (.slice tInt) (out++[a.1]) (λg=>qq m K f l x i g)))))) (qq m K f l x i out))))) (K out))
def Em (m:Bool)(K:(List Int)→Option C)(f:aB C)(l:Λ)(x:(List Int)):Option C:=f l x [] 0
def lI:Nat→aB (List Int):=lp (λ_ _ _ _=>none) λf=>ui false some f
def uj (l:Λ)(x:(List Int)):Option (List Int):=Em false some (lI FU) l x
def Vd:Ent:=evE (.cons (.slice tCommit) (.cons (.slice tInt) .unit)) aq (zero (.slice tInt)) λx=>uj x.1 x.2.1
def Ve:Par:=⟨eN.tab,az [(18,sE)],λ_=>look [(4,mh)],λ_=>look [(3,mh)]⟩
def Vg (f g:Nat)(p:List Nat):Sg→KT→Option AV:=xc (bn fi0 hs0 f 0) Ve g f (sub (f16.body.getD .skip) p)
def wb (f n:Nat):aB AV:=λl x out i=>aE 0 mh (Vg f 0 [1,1,0,1,0,0]) (aj 0 (aL 0 none (Vg f 0 [1,1,1]) ng)) n ⟨mkE 44 [(0,.val (.slice tCommit) l),(1,.val (.slice tInt) x),(5,.own 0 0 tInt out),(6,.val tInt i)],mkH 1 [(0,.row tInt 3 0)]⟩
def XE (f g:Nat):wb f (g+1)=ui true (sm aq) (wb f g):=Φ
def XF:∀n,wb FU n=mp4 aq (lI n):=bo Φ λf _ h=>(XE FU f).trans (by rw[h];funext _ _ _ _;simp only[ui,qq,ss])
def ad7:ar prog 16 (Vd):=evX func16 (S:=Ve) cF (ag ⟨mod2_x,aoG⟩) (tys:=[(.slice tInt)]) (λf x=>Em true (sm aq) (wb f f) x.1 x.2.1) (λx=>by show _=Option.map aq _;rw[XF FU];simp only[Em,uj,qq,ss])
def Zl:Ent:=sp1 tCommit (λf=>EL f) λf=>.val tCommit (BI f)
def vw (m:Bool)(K:br→Option C)(f:dc C):dc C:=λc l g=>let a:=ix ao c.2.1 g;cond (g<il c.2.1) (ck (bd g c.2.1.length) (ce m tCommit (EL a.1) (BI a.1) (λr1=>ck (lm (List.length l+List.length ([r1]:List tCommit.den))) (fz m (.slice tCommit) (l++[r1]) (λp=>fz m tInt (w64 (g+1)) λj=>f c p j))))) (K l)
def EP (m:Bool)(K:br→Option C)(f:dc C)(c:am.den):Option C:=f c [] 0
def rp:Nat→dc br:=lp (λ_ _ _=>none) λf=>vw false some f
def BM (c:am.den):Option br:=EP false some (rp FU) c
def WE:Ent:=evE (.cons am .unit) bi (zero (.slice tCommit)) λx=>BM x.1
def KX:MS:=⟨0,[],[(3,.own tCommit 38),(7,.dat (.slice ao)),(8,.dat tInt),(9,.dat tInt)]⟩
def WF:Par:=⟨eN.tab,az [(38,Zl)],λ_=>look [],λ_=>look [(3,KX)]⟩
def WG (f g:Nat)(p:List Nat):Sg→KT→Option AV:=xc (bn fi0 hs0 f 0) WF g f (sub (f47.body.getD .skip) p)
def xe (f n:Nat):dc AV:=λc l g=>aE 0 KX (WG f 0 [1,1,0,1,0,0]) (aj 0 (aL 0 none (WG f 0 [1,1,1]) Ro)) n ⟨mkE 21 [(3,.own 0 0 tCommit l),(7,.val (.slice ao) c.2.1),(8,.val tInt (il c.2.1)),(9,.val tInt g)],mkH 1 [(0,.row tCommit 38 0)]⟩
def Zn (f g:Nat):xe f (g+1)=vw true (sm bi) (xe f g):=Φ
def Zo:∀n,xe FU n=mp3 bi (rp n):=bo Φ λf _ h=>(Zn FU f).trans (by rw[h];funext _ _ _;simp only[vw,ss])
def afK:ar prog 47 (WE):=evX func47 (S:=WF) cF (ag ⟨Zk,aoG⟩) (tys:=[(.slice tCommit)]) (λf x=>EP true (sm bi) (xe f f) x.1) (λx=>by show _=Option.map bi _;rw[Zo FU];simp only[EP,BM,ss])
def p7 (m:Bool)(K:d7→Option C)(f:cq C):cq C:=λc g=>cond (g<il c.2.1) (ck (bd g c.2.1.length) (cond (!(ix ao c.2.1 g).2.1=0) (K ([],false,())) (fz m tInt (w64 (g+1)) (λj=>f c j)))) (cl m (.slice tCommit) (BM c) (λr1=>K (r1,true,())))
def zk (m:Bool)(K:d7→Option C)(f:cq C)(c:am.den):Option C:=f c 0
def rK:Nat→cq d7:=lp (λ_ _=>none) λf=>p7 false some f
def i7 (c:am.den):Option d7:=zk false some (rK FU) c
def NU:Ent:=evE (.cons am .unit) dZ (zero (.cons (.slice tCommit) (.cons .bool .unit))) λx=>i7 x.1
def E8:MS:=⟨1,[(0,[.dat (.slice tInt),.dat (.slice ao)])],[(1,.keep),(7,.dat (.slice ao)),(8,.dat tInt),(9,.dat tInt)]⟩
def NV:Par:=⟨eN.tab,az [(47,WE)],λ_=>look [],λ_=>look [(2,E8)]⟩
def NW (f g:Nat)(p:List Nat):Sg→KT→Option AV:=xc (bn fi0 hs0 f 0) NV g f (sub (f22.body.getD .skip) p)
def rJ (f n:Nat):cq AV:=λc g=>aE 0 E8 (NW f 0 [1,0,1,0,0]) (aj 0 (aL 0 none (NW f 0 [1,1]) Jh)) n ⟨mkE 19 [(1,.box 0 0),(7,.val (.slice ao) c.2.1),(8,.val tInt (il c.2.1)),(9,.val tInt g)],mkH 1 [(0,.box [.val (.slice tInt) c.1,.val (.slice ao) c.2.1])]⟩
def R2 (f g:Nat):rJ f (g+1)=p7 true (sm dZ) (rJ f g):=Φ
def R3:∀n,rJ FU n=mp2 dZ (rK n):=bo Φ λf _ h=>(R2 FU f).trans (by rw[h];funext _ _;simp only[p7,ss])
def ZT:ar prog 22 (NU):=evX func22 (S:=NV) cF (ag ⟨afK,aoG⟩) (tys:=[(.slice tCommit),.bool]) (λf x=>zk true (sm dZ) (rJ f f) x.1) (λx=>by show _=Option.map dZ _;rw[R3 FU];simp only[zk,i7,ss])
def afn:Ent:=sp2 am (.slice tCommit) (λg f=>Br g f) λg f=>.tup (cm [.val am (b7 g f).1,.val tInt (b7 g f).2.1])
def ZD:Ent:=sp0 (.val .bool (C0))
abbrev fC (C:Type):=Int→Int→Λ→(List Int)→am.den→Nat→Int→Λ→Option C
abbrev MI (C:Type):=Int→Int→Λ→(List Int)→Int→am.den→Nat→Λ→Option C
abbrev xY (C:Type):=Int→am.den→Nat→Λ→Int→(List Int)→(List Int)→Str→Υ→Option C
abbrev ga (C:Type):=Int→am.den→Λ→Nat→Int→Υ→Λ→Option C
abbrev IK (C:Type):=Nat→Λ→am.den→Option C
abbrev G8 (C:Type):=Nat→Λ→Int→Int→(List Int)→(List Int)→Str→Υ→am.den→Option C
def gX (m:Bool)(K:Bool→Option C)(j:fC C):MI C:=λg r r1 J i P f p=>fz m tInt (w64 (i+1)) λl=>j g r r1 J P f l p
def LO (g:am.den)(f:am.den):Bool:=(lL g f).isSome
def iA (g:am.den)(f:am.den):Bool:=(lL g f).getD (zero .bool)
def LM (g:Λ)(f:Λ):Bool:=(lK g f).isSome
def zT (g:Λ)(f:Λ):Bool:=(lK g f).getD (zero .bool)
def eu (m:Bool)(K:Bool→Option C):G8 C:=λf U r6 r p l j g r3=>ce m (.cons am (.cons tInt .unit)) (Br r3 ((List.take f (List.set U (0+Int.toNat r6) (r,p,l,j,g,()))).drop 0)) (b7 r3 ((List.take f (List.set U (0+Int.toNat r6) (r,p,l,j,g,()))).drop 0)) λT=>cl m (.cons am (.cons tInt .unit)) (jt r3 ((List.take f (List.set U (0+Int.toNat r6) (r,p,l,j,g,()))).drop 0)) λR=>let a:Bool:=cond (T.2.1=R.2.1) (iA T.1 R.1) false;cl m (.cons (.slice tCommit) (.cons .bool .unit)) (i7 T.1) λP=>cl m (.cons (.slice tCommit) (.cons .bool .unit)) (gy R.1) λJ=>let b:=zT P.1 J.1;nm m 2 (T.2.1=R.2.1) (LO T.1 R.1) (nq m [1] (T.2.1=R.2.1) (nq m [3,1] a (nm m 2 (cond a ((P.2.1:Bool)=J.2.1) false) (LM P.1 J.1) (nq m [1] (cond a ((P.2.1:Bool)=J.2.1) false) (nq m [1] (cond (cond a ((P.2.1:Bool)=J.2.1) false) b false) (K (cond (cond (cond a ((P.2.1:Bool)=J.2.1) false) b false) C0 false)))))))
def bT (m:Bool)(K:Bool→Option C):xY C:=λP R f J r p l j g=>ck (0≤P&&P<ni f) (eu m K f J P r p l j g R)
def fD (m:Bool)(K:Bool→Option C):IK C:=λg j l=>let b:=List.take g j;ce m (.cons am (.cons tInt .unit)) (Br l (b.drop 0)) (b7 l (b.drop 0)) λr9=>cl m (.cons am (.cons tInt .unit)) (jt l (b.drop 0)) λr10=>let a:Bool:=cond (r9.2.1=r10.2.1) (iA r9.1 r10.1) false;cl m (.cons (.slice tCommit) (.cons .bool .unit)) (i7 r9.1) λr11=>cl m (.cons (.slice tCommit) (.cons .bool .unit)) (gy r10.1) λf=>let c:=zT r11.1 f.1;nm m 2 (r9.2.1=r10.2.1) (LO r9.1 r10.1) (nq m [1] (r9.2.1=r10.2.1) (nq m [3,1] a (nm m 2 (cond a ((r11.2.1:Bool)=f.2.1) false) (LM r11.1 f.1) (nq m [1] (cond a ((r11.2.1:Bool)=f.2.1) false) (nq m [1] (cond (cond a ((r11.2.1:Bool)=f.2.1) false) c false) (K (cond (cond (cond a ((r11.2.1:Bool)=f.2.1) false) c false) C0 false)))))))
def kn (m:Bool)(K:Bool→Option C)(U:fC C)(k_l23:ga C):fC C:=λP t5 r1 r4 T f i l=>let c:=bd i r1.length;cond (i<il r1) (ck c (cl m .bool (lw r4 (ix tCommit r1 i).1) (λr5=>cond r5 (ck c (ck (lm (f+List.length ([ix tCommit r1 i]:List tCommit.den))) (fm m (f+List.length ([ix tCommit r1 i]:List tCommit.den)) (λj=>fz m (.slice tCommit) (List.take f l++[ix tCommit r1 i]) λg=>gX m K U P t5 r1 r4 i T j g)))) (gX m K U P t5 r1 r4 i T f l)))) (cond (ni f>0) (cl m tInt (mod2_ev t5 (ni f)) (λR=>let a:=List.getD l (0+Int.toNat R) (zero tCommit);let b:=Int.tdiv (il a.2.2.2.2.1) 2;ck (0≤R&&R<ni f) (cl m tInt (mod2_ev P 8) (λr7=>cond (r7=0) (fz m tInt a.1 (λJ=>fz m (.slice tInt) a.2.1 λr=>fz m (.slice tInt) a.2.2.1 λj=>fz m .str [111,116,104,101,114] λg=>fz m (.slice aa) a.2.2.2.2.1 λp=>bT m K R T f l J r j g p)) (cond (r7=1) (ck (!(2:Int)=0) (ck (0≤w64 b&&w64 b≤(a.2.2.2.2.1.length:Int)) (fz m tInt a.1 (λJ=>fz m (.slice tInt) a.2.1 λr=>fz m (.slice tInt) a.2.2.1 λj=>fz m .str a.2.2.2.1 λg=>fz m (.slice aa) ((List.take (Int.toNat (w64 b)) a.2.2.2.2.1).drop 0) λp=>bT m K R T f l J r j g p)))) (cond (r7=2) (cl m (.slice tInt) (gq a.2.1 9437185) (λr8=>fz m tInt a.1 λJ=>fz m (.slice tInt) a.2.2.1 λj=>fz m .str a.2.2.2.1 λg=>fz m (.slice aa) a.2.2.2.2.1 λp=>bT m K R T f l J r8 j g p)) (cond (r7=3) (ck (lm (0+List.length a.2.2.2.2.1)) (fz m (.slice aa) (List.take 0 []++a.2.2.2.2.1) (λr=>k_l23 R T l f 0 r l))) (cond (r7=4) (fz m (.slice tInt) a.2.1 (λr=>fz m (.slice tInt) a.2.2.1 λj=>fz m .str a.2.2.2.1 λg=>fz m (.slice aa) a.2.2.2.2.1 λp=>bT m K R T f l 9437187 r j g p)) (fz m tInt a.1 (λJ=>fz m (.slice tInt) a.2.1 λr=>fz m (.slice tInt) a.2.2.1 λj=>fz m .str a.2.2.2.1 λg=>fz m (.slice aa) a.2.2.2.2.1 λp=>bT m K R T f l J r j g p)))))))))) (fD m K f l T))
def jG (m:Bool)(K:Bool→Option C):xY C:=λP R f J r p l j g=>ck (0≤P&&P<ni f) (eu m K f J P r p l j g R)
def iQ (m:Bool)(K:Bool→Option C)(r:ga C):ga C:=λU r3 J g i f j=>let b:=List.getD f (0+Int.toNat i) (zero aa);let a:=List.getD J (0+Int.toNat U) (zero tCommit);cond (i<ni (0+List.length a.2.2.2.2.1)) (ck (0≤i&&i<ni (0+List.length a.2.2.2.2.1)) (ck (0≤i&&i<ni (0+List.length a.2.2.2.2.1)) (fz m tInt (w64 (i+1)) (λp=>fz m (.slice aa) (List.set f (0+Int.toNat i) (b.1,b.2.1,(w64 (b.2.2.1.1+1),b.2.2.1.2.1,b.2.2.1.2.2.1,b.2.2.1.2.2.2.1,()),())) λl=>r U r3 J g p l j)))) (fz m tInt a.1 (λp=>fz m (.slice tInt) a.2.1 λl=>fz m (.slice tInt) a.2.2.1 λT=>fz m .str a.2.2.2.1 λR=>fz m (.slice aa) ((List.take (0+List.length a.2.2.2.2.1) f).drop 0) λP=>jG m K U r3 g j p l T R P))
def sI (m:Bool)(K:Bool→Option C)(j:fC C)(first:Int)(l:Lb')(x:(List Int))(f:(List Int))(g:Int)(p:Int):Option C:=cl m (.slice tCommit) (kz first l) λr1=>cl m (.slice tInt) (p9 r1 x) λP=>cl m am (qV r1 P) λJ=>cl m (.slice tInt) (uj r1 f) λr=>j g p r1 r J 0 0 []
def er:Nat→ga Bool:=lp (λ_ _ _ _ _ _ _=>none) λf=>iQ false some f
def iP:Nat→fC Bool:=lp (λ_ _ _ _ _ _ _ _=>none) λf=>kn false some f (er FU)
def gY (first:Int)(l:Lb')(x:(List Int))(f:(List Int))(g:Int)(j:Int):Option Bool:=sI false some (iP FU) first l x f g j
def G9:Ent:=evE (.cons tInt (.cons (.slice aX) (.cons (.slice tInt) (.cons (.slice tInt) (.cons tInt (.cons tInt .unit)))))) ac (zero .bool) λx=>gY x.1 x.2.1 x.2.2.1 x.2.2.2.1 x.2.2.2.2.1 x.2.2.2.2.2.1
def sJ:MS:=⟨11,[(10,[.dat (.slice tInt),.dat (.slice ao)])],[(4,.dat tInt),(5,.dat tInt),(13,.dat (.slice tCommit)),(14,.keep),(15,.dat (.slice tInt)),(16,.mut tCommit 38),(17,.dat tInt)]⟩
def xZ:MS:=⟨29,[(10,[.dat (.slice tInt),.dat (.slice ao)]),(28,[.dat tInt,.dat (.slice tInt),.dat (.slice tInt),.dat .str,.mut aa 44])],[(14,.keep),(16,.mut tCommit 38),(18,.dat tInt),(19,.keep),(20,.dat tInt)]⟩
def x8:MS:=⟨29,[(10,[.dat (.slice tInt),.dat (.slice ao)]),(28,[.dat tInt,.dat (.slice tInt),.dat (.slice tInt),.dat .str,.dat (.slice aa)])],[(14,.keep),(16,.mut tCommit 38),(18,.dat tInt),(19,.keep)]⟩
def x7:MS:=⟨11,[(10,[.dat (.slice tInt),.dat (.slice ao)])],[(14,.keep),(16,.dat (.slice tCommit))]⟩
def Ha:Par:=⟨Ci.tab,az [(7,Hp),(8,N1),(14,PZ),(16,Vd),(17,pO),(18,sE),(19,yB),(20,afn),(21,QQ),(22,NU),(23,Jf),(12,OU),(24,OR),(15,ZD)],λ_=>look [(7,sJ),(28,x8),(29,x7)],λ_=>look [(6,sJ),(23,xZ)]⟩
def Hb:KT:=bg Ci.tab [.tmp 12] [.bool]
def mY (f g:Nat)(p:List Nat):Sg→KT→Option AV:=xc (bn fi0 hs0 f 0) Ha g f (sub (f4.body.getD .skip) p)
def lk (g n:Nat):fC AV:=λj r r1 C p f i l=>aE 0 sJ (mY g 0 [1,1,1,1,1,0,1,0,0]) (aj 0 (aL 0 none (mY g 0 [1,1,1,1,1,1]) Hb)) n ⟨mkE 167 [(4,.val tInt j),(5,.val tInt r),(13,.val (.slice tCommit) r1),(14,.box 10 0),(15,.val (.slice tInt) C),(16,.msl 11 0 0 f),(17,.val tInt i)],mkH 12 [(10,.box [.val (.slice tInt) p.1,.val (.slice ao) p.2.1]),(11,.mrow tCommit 38 0 l)]⟩
def jF (f n:Nat):ga AV:=λr C p g i j l=>let a:=List.getD p (0+Int.toNat r) (zero tCommit);aE 0 xZ (mY f 0 [1,1,1,1,1,1,0,1,0,1,1,0,1,0,1,1,1,1,1,1,1,0,1,1,0,0]) (aj 3 (aj 2 (aL 0 (some x8) (mY f 0 [1,1,1,1,1,1,0,1,0,1,1,1]) (aL 0 (some x7) (mY f 0 [1,1,1,1,1,1,1]) Hb)))) n ⟨mkE 167 [(14,.box 10 0),(16,.msl 30 0 0 g),(18,.val tInt r),(19,.box 28 0),(20,.val tInt i)],mkH 31 [(10,.box [.val (.slice tInt) C.1,.val (.slice ao) C.2.1]),(11,.dead),(28,.box [.val tInt a.1,.val (.slice tInt) a.2.1,.val (.slice tInt) a.2.2.1,.val .str a.2.2.2.1,.msl 29 0 0 (0+List.length a.2.2.2.2.1)]),(29,.mrow aa 44 0 j),(30,.mrow tCommit 38 0 l)]⟩
def MJ (f g:Nat):lk f (g+1)=kn true (sm ac) (lk f g) (jF f f):=Φ
def IL (f g:Nat):jF f (g+1)=iQ true (sm ac) (jF f g):=Φ
def IM:∀n,jF FU n=mp7 ac (er n):=bo Φ λf _ h=>(IL FU f).trans (by rw[h];funext _ _ _ _ _ _ _;simp only[iQ,bT,jG,fD,eu,gX,m8,ss])
def ML:∀n,lk FU n=mp8 ac (iP n):=bo Φ λf _ h=>(MJ FU f).trans (by rw[h,IM FU];funext _ _ _ _ _ _ _ _;simp only[kn,bT,jG,fD,eu,gX,m8,ss])
def TS:ar prog 4 (G9):=evX func4 (S:=Ha) Jv (ag ⟨Ub,ZX,abv,ad7,sY,mod2_x,Cq,afm,ack,ZT,Xc,aaK,aaH,ZC,aoG⟩) (tys:=[.bool]) (λf x=>sI true (sm ac) (lk f f) x.1 x.2.1 x.2.2.1 x.2.2.2.1 x.2.2.2.2.1 x.2.2.2.2.2.1) (λx=>by show _=Option.map ac _;rw[ML FU];simp only[sI,gY,bT,jG,fD,eu,gX,m8,m13,ss])
end
end Abs
