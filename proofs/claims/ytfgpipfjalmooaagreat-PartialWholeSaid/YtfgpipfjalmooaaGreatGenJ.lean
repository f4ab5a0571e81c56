/- The equations of the program's functions. -/
import Derived.Test.YtfgpipfjalmooaaGreatRunD
import Derived.Test.YtfgpipfjalmooaaGreatMkF
open Option renaming some→ä,none→ö
open Bool renaming true→ü,false→ß
set_option linter.all false
noncomputable section
namespace Go.Proofs.YtfgpipfjalmooaaGreat
namespace Clo
open Go Go.RowKit Tryz
def SP [SymVal]{r:RC}(h:UV r=ü):∃d n,r = .ok (.pv (.one (.bl ü))) d n:=by
 cases r with
 |no=>cases h
 |ok v d n =>have h:V0 v (.pv (.one (.bl ü)))=true:=h;obtain rfl:=Kq h;exact⟨d,n,rfl⟩
def awake_meets:Abs.MeetsD prog 15 [] (.val .bool ü):=by
 letI:SymVal:=⟨λ_=>.bool ü,λ_=>rfl,λ_=>True⟩
 obtain⟨d,n,j⟩:=SP YK;refine zy (λ_=>trivial) Abs.follows (Wj Abs.follows Zs) (ds:=[]) (λw St g f=>?_) j rfl ⟨_,func15,Φ,Φ⟩;cases g with
 |nil=>trivial
 |cons _ _=>exact f.elim
end Clo
namespace Abs
open Tryz
def aga:MeetsD prog 15 [] (.val .bool ü):=Clo.awake_meets
open Go
def Mo:Bool:=ü
def Yo:aj prog 38 (sp1 tCommit (λf=>Dz f) (λf=>.val tCommit (Ag f))):=qS λx h=>acq x h
def afk:aj prog 20 (sp2 aD (.slice tCommit) (λg f=>w9 g f) (λg f=>.tup (aY [.val aD ((er g f).1),.val tInt ((er g f).2.1)]))):=Kw λx y h=>ah7 x y h
def aeR:aj prog 13 (sp2 (.slice tCommit) (.slice tInt) (λg f=>F8 g f) (λg f=>.val aD (iC g f))):=Kw λx y h=>ahO x y h
def YL:aj prog 15 (sp0 (.val .bool (Mo))):=ahf aga
section
def nB:TabL:={
 ty:=[(3,tInt),(4,.bool),(9,.str),(22,(.slice be)),(23,(.slice tInt)),(24,(.slice tCommit)),(29,(.slice am)),(31,aD),(36,(.slice aa)),(38,tCommit),(42,aM),(44,aa),(45,tInt),(54,am),(60,be)],
 cells:=[(3,1),(4,1),(9,1),(22,1),(23,1),(24,1),(29,1),(31,2),(36,1),(38,5),(42,4),(44,6),(45,1),(54,6),(60,4),(73,1),(79,1),(82,1)],
 si:=[((31,0),0),((31,1),1),((38,0),0),((38,1),1),((38,2),2),((38,3),3),((38,4),4),((42,0),0),((42,1),1),((42,2),2),((42,3),3),((44,0),0),((44,1),1),((44,2),2),((54,0),0),((54,1),5),((60,0),0),((60,1),1),((60,2),2),((60,3),3)],
 one:=[(31,2)],
 elem:=[(22,60),(23,3),(24,38),(29,54),(36,44)] }
def jd:TabOk prog nB.tab:=TabL.ok Φ
abbrev pw (C:Type):=(List Int)→(List Int)→Int→Option C
variable{C:Type}
def sZ (m:Bool)(K:Bool→Option C)(f:pw C):pw C:=λa b i=>cond (i<il a) (ck (bd i a.length) (ck (bd i b.length) (cond (!ix tInt a i=ix tInt b i) (K ß) (fz m tInt (w64 (i+1)) (λg=>f a b g))))) (K ü)
def C6 (m:Bool)(K:Bool→Option C)(f:pw C)(a:(List Int))(b:(List Int)):Option C:=cond (!il a=il b) (K ß) (f a b 0)
def vd:Nat→pw Bool:=lp (λ_ _ _=>ö) λf=>sZ ß ä f
def lN (a:(List Int))(b:(List Int)):Option Bool:=C6 ß ä (vd FU) a b
def KE:Ent:=evE (.cons (.slice tInt) (.cons (.slice tInt) .unit)) ae (zero .bool) λx=>lN x.1 x.2.1
def Ip:MS:=⟨0,[],[(0,.bb (.slice tInt)),(1,.bb (.slice tInt)),(5,.bb tInt)]⟩
def Ub:Par:=⟨nB.tab,az [],λ_=>look [],λ_=>look [(4,Ip)]⟩
def C7:KT:=bq nB.tab [.tmp 4] [.bool]
def Uc (f g:Nat)(p:List Nat):Sg→KT→Option AV:=xc (bo fi0 hs0 f 0) Ub g f (sub (f9.body.getD .skip) p)
def u6 (f n:Nat):pw AV:=λa b i=>aN 0 Ip (Uc f 0 [1,1,0,1,0,0]) (ak 0 (aW 0 ö (Uc f 0 [1,1,1]) C7)) n ⟨mkE 26 [(0,.val (.slice tInt) a),(1,.val (.slice tInt) b),(5,.val tInt i)],mkH 0 []⟩
def WE (f g:Nat):u6 f (g+1)=sZ ü (sm ae) (u6 f g):=Φ
def WF:∀n,u6 FU n=mp3 ae (vd n):=cq Φ λf _ h=>(WE FU f).trans (by rw[h];funext _ _ _;simp only[sZ,ss])
def Ua:aj prog 9 (KE):=evX func9 (S:=Ub) jd (ag trivial) (tys:=[.bool]) (λf x=>C6 ü (sm ae) (u6 f f) x.1 x.2.1) (λx=>by show _=Option.map ae _;rw[WF FU];simp only[C6,lN,ss])
abbrev pz (C:Type):=tCommit.den→tCommit.den→Int→Option C
def ta (m:Bool)(K:Bool→Option C)(f:pz C):pz C:=λa b i=>cond (i<il a.2.2.2.2.1) (ck (bd i a.2.2.2.2.1.length) (ck (bd i b.2.2.2.2.1.length) (cond (!eqD aa (ix aa a.2.2.2.2.1 i) (ix aa b.2.2.2.2.1 i)) (K ß) (fz m tInt (w64 (i+1)) (λg=>f a b g))))) (K ü)
def KF (g:(List Int))(f:(List Int)):Bool:=(lN g f).isSome
def qZ (g:(List Int))(f:(List Int)):Bool:=(lN g f).getD (zero .bool)
def C8 (m:Bool)(K:Bool→Option C)(j:pz C)(a:tCommit.den)(b:tCommit.den):Option C:=let h:Bool:=!qZ a.2.2.1 b.2.2.1;let g:Bool:=!a.2.2.2.1=b.2.2.2.1;let e:Bool:=!qZ a.2.1 b.2.1;let d:Bool:=!cond (!a.1=b.1) ü g;let c:=cond (!a.1=b.1) ü g;let i:=cond c ü e;let f:Bool:=!cond c ü e;nq m [2,2,3,0] (!!a.1=b.1) (nq m [2,2] d (nm m 2 d (KF a.2.1 b.2.1) (nq m [2,0] d (nq m [2,2] f (nm m 2 f (KF a.2.2.1 b.2.2.1) (nq m [2,0] f (nq m [2,2,2,2,3,0] (!cond i ü h) (cond (cond (cond i ü h) ü (!il a.2.2.2.2.1=il b.2.2.2.2.1)) (K ß) (j a b 0)))))))))
def vg:Nat→pz Bool:=lp (λ_ _ _=>ö) λf=>ta ß ä f
def lP (a:tCommit.den)(b:tCommit.den):Option Bool:=C8 ß ä (vg FU) a b
def KG:Ent:=evE (.cons tCommit (.cons tCommit .unit)) ae (zero .bool) λx=>lP x.1 x.2.1
def Ir:MS:=⟨2,[(0,[.bb tInt,.bb (.slice tInt),.bb (.slice tInt),.bb .str,.bb (.slice aa)]),(1,[.bb tInt,.bb (.slice tInt),.bb (.slice tInt),.bb .str,.bb (.slice aa)])],[(2,.keep),(3,.keep),(5,.bb tInt)]⟩
def Uf:Par:=⟨nB.tab,az [(9,KE)],λ_=>look [],λ_=>look [(4,Ir)]⟩
def Ug (f g:Nat)(p:List Nat):Sg→KT→Option AV:=xc (bo fi0 hs0 f 0) Uf g f (sub (f33.body.getD .skip) p)
def vf (f n:Nat):pz AV:=λa b i=>aN 0 Ir (Ug f 0 [1,1,0,1,0,0]) (ak 0 (aW 0 ö (Ug f 0 [1,1,1]) C7)) n ⟨mkE 61 [(2,.box 0 0),(3,.box 1 0),(5,.val tInt i)],mkH 2 [(0,.box [.val tInt a.1,.val (.slice tInt) a.2.1,.val (.slice tInt) a.2.2.1,.val .str a.2.2.2.1,.val (.slice aa) a.2.2.2.2.1]),(1,.box [.val tInt b.1,.val (.slice tInt) b.2.1,.val (.slice tInt) b.2.2.1,.val .str b.2.2.2.1,.val (.slice aa) b.2.2.2.2.1])]⟩
def WG (f g:Nat):vf f (g+1)=ta ü (sm ae) (vf f g):=Φ
def WH:∀n,vf FU n=mp3 ae (vg n):=cq Φ λf _ h=>(WG FU f).trans (by rw[h];funext _ _ _;simp only[ta,ss])
def Ue:aj prog 33 (KG):=evX func33 (S:=Uf) jd (ag ⟨Ua,apa⟩) (tys:=[.bool]) (λf x=>C8 ü (sm ae) (vf f f) x.1 x.2.1) (λx=>by show _=Option.map ae _;rw[WH FU];simp only[C8,lP,ss])
abbrev lO (C:Type):=Λ→Λ→Int→Option C
def px (m:Bool)(K:Bool→Option C)(f:lO C):lO C:=λa b i=>cond (i<il a) (ck (bd i a.length) (ck (bd i b.length) (cl m .bool (lP (ix tCommit a i) (ix tCommit b i)) (λr1=>cond (!r1) (K ß) (fz m tInt (w64 (i+1)) (λg=>f a b g)))))) (K ü)
def yL (m:Bool)(K:Bool→Option C)(f:lO C)(a:Λ)(b:Λ):Option C:=cond (!il a=il b) (K ß) (f a b 0)
def ra:Nat→lO Bool:=lp (λ_ _ _=>ö) λf=>px ß ä f
def kQ (a:Λ)(b:Λ):Option Bool:=yL ß ä (ra FU) a b
def NU:Ent:=evE (.cons (.slice tCommit) (.cons (.slice tCommit) .unit)) ae (zero .bool) λx=>kQ x.1 x.2.1
def EE:MS:=⟨0,[],[(0,.bb (.slice tCommit)),(1,.bb (.slice tCommit)),(5,.bb tInt)]⟩
def NV:Par:=⟨nB.tab,az [(33,KG)],λ_=>look [],λ_=>look [(4,EE)]⟩
def NW (f g:Nat)(p:List Nat):Sg→KT→Option AV:=xc (bo fi0 hs0 f 0) NV g f (sub (f24.body.getD .skip) p)
def q9 (f n:Nat):lO AV:=λa b i=>aN 0 EE (NW f 0 [1,1,0,1,0,0]) (ak 0 (aW 0 ö (NW f 0 [1,1,1]) C7)) n ⟨mkE 27 [(0,.val (.slice tCommit) a),(1,.val (.slice tCommit) b),(5,.val tInt i)],mkH 0 []⟩
def RG (f g:Nat):q9 f (g+1)=px ü (sm ae) (q9 f g):=Φ
def RH:∀n,q9 FU n=mp3 ae (ra n):=cq Φ λf _ h=>(RG FU f).trans (by rw[h];funext _ _ _;simp only[px,ss])
def Z7:aj prog 24 (NU):=evX func24 (S:=NV) jd (ag ⟨Ue,apa⟩) (tys:=[.bool]) (λf x=>yL ü (sm ae) (q9 f f) x.1 x.2.1) (λx=>by show _=Option.map ae _;rw[RH FU];simp only[yL,kQ,ss])
abbrev lQ (C:Type):=aD.den→aD.den→Int→Option C
def Z8 (g:tCommit.den)(f:tCommit.den):Bool:=(lP g f).isSome
def Z9 (g:tCommit.den)(f:tCommit.den):Bool:=(lP g f).getD (zero .bool)
def pB (m:Bool)(K:Bool→Option C)(j:lQ C):lQ C:=λa b i=>let g:=bd i b.2.1.length;let f:=bd i a.2.1.length;let e:=ix am b.2.1 i;let d:=ix am a.2.1 i;let c:Bool:=!! d.2.1=e.2.1;cond (i<il a.2.1) (ck f (ck g (nq m [2] c (nm m 2 c f (nq m [2,2,2] c (nm m 2 c g (nq m [2,2] c (nm m 2 c (Z8 d.1 e.1) (nq m [2,0] c (cond (cond (! d.2.1=e.2.1) ü (!Z9 d.1 e.1)) (K ß) (fz m tInt (w64 (i+1)) (λl=>j a b l)))))))))))) (K ü)
def yM (m:Bool)(K:Bool→Option C)(f:lQ C)(a:aD.den)(b:aD.den):Option C:=cl m .bool (lN a.1 b.1) λr1=>nq m [2,2,2,2,3,0] (!!r1) (cond (cond (!r1) ü (!il a.2.1=il b.2.1)) (K ß) (f a b 0))
def rc:Nat→lQ Bool:=lp (λ_ _ _=>ö) λf=>pB ß ä f
def kR (a:aD.den)(b:aD.den):Option Bool:=yM ß ä (rc FU) a b
def NX:Ent:=evE (.cons aD (.cons aD .unit)) ae (zero .bool) λx=>kR x.1 x.2.1
def EG:MS:=⟨2,[(0,[.bb (.slice tInt),.bb (.slice am)]),(1,[.bb (.slice tInt),.bb (.slice am)])],[(2,.keep),(3,.keep),(5,.bb tInt)]⟩
def NY:Par:=⟨nB.tab,az [(9,KE),(33,KG)],λ_=>look [],λ_=>look [(4,EG)]⟩
def NZ (f g:Nat)(p:List Nat):Sg→KT→Option AV:=xc (bo fi0 hs0 f 0) NY g f (sub (f12.body.getD .skip) p)
def rb (f n:Nat):lQ AV:=λa b i=>aN 0 EG (NZ f 0 [1,1,0,1,0,0]) (ak 0 (aW 0 ö (NZ f 0 [1,1,1]) C7)) n ⟨mkE 57 [(2,.box 0 0),(3,.box 1 0),(5,.val tInt i)],mkH 2 [(0,.box [.val (.slice tInt) a.1,.val (.slice am) a.2.1]),(1,.box [.val (.slice tInt) b.1,.val (.slice am) b.2.1])]⟩
def RJ (f g:Nat):rb f (g+1)=pB ü (sm ae) (rb f g):=Φ
def RK:∀n,rb FU n=mp3 ae (rc n):=cq Φ λf _ h=>(RJ FU f).trans (by rw[h];funext _ _ _;simp only[pB,ss])
def aaa:aj prog 12 (NX):=evX func12 (S:=NY) jd (ag ⟨Ua,Ue,apa⟩) (tys:=[.bool]) (λf x=>yM ü (sm ae) (rb f f) x.1 x.2.1) (λx=>by show _=Option.map ae _;rw[RK FU];simp only[yM,kR,ss])
def Yp:Ent:=sp1 tCommit (λf=>Dz f) λf=>.val tCommit (Ag f)
abbrev qf (C:Type):=aD.den→Λ→Int→Option C
def uo (m:Bool)(K:ca→Option C)(f:qf C):qf C:=λc l g=>let a:=ix am c.2.1 g;cond (g<il c.2.1) (ck (bd g c.2.1.length) (ce m tCommit (Dz a.1) (Ag a.1) (λr1=>ck (lm (List.length l+List.length ([r1]:List tCommit.den))) (fz m (.slice tCommit) (l++[r1]) (λp=>fz m tInt (w64 (g+1)) λj=>f c p j))))) (K l)
def DD (m:Bool)(K:ca→Option C)(f:qf C)(c:aD.den):Option C:=f c [] 0
def qg:Nat→qf ca:=lp (λ_ _ _=>ö) λf=>uo ß ä f
def Aj (c:aD.den):Option ca:=DD ß ä (qg FU) c
def Vp:Ent:=evE (.cons aD .unit) bQ (zero (.slice tCommit)) λx=>Aj x.1
def JJ:MS:=⟨0,[],[(3,.own tCommit 38),(7,.bb (.slice am)),(8,.bb tInt),(9,.bb tInt)]⟩
def Vq:Par:=⟨nB.tab,az [(38,Yp)],λ_=>look [],λ_=>look [(3,JJ)]⟩
def afI:KT:=bq nB.tab [.tmp 2] [(.slice tCommit)]
def Vr (f g:Nat)(p:List Nat):Sg→KT→Option AV:=xc (bo fi0 hs0 f 0) Vq g f (sub (f47.body.getD .skip) p)
def v6 (f n:Nat):qf AV:=λc l g=>aN 0 JJ (Vr f 0 [1,1,0,1,0,0]) (ak 0 (aW 0 ö (Vr f 0 [1,1,1]) afI)) n ⟨mkE 21 [(3,.own 0 0 tCommit l),(7,.val (.slice am) c.2.1),(8,.val tInt (il c.2.1)),(9,.val tInt g)],mkH 1 [(0,.row tCommit 38 0)]⟩
def Yr (f g:Nat):v6 f (g+1)=uo ü (sm bQ) (v6 f g):=Φ
def Ys:∀n,v6 FU n=mp3 bQ (qg n):=cq Φ λf _ h=>(Yr FU f).trans (by rw[h];funext _ _ _;simp only[uo,ss])
def afH:aj prog 47 (Vp):=evX func47 (S:=Vq) jd (ag ⟨Yo,apa⟩) (tys:=[(.slice tCommit)]) (λf x=>DD ü (sm bQ) (v6 f f) x.1) (λx=>by show _=Option.map bQ _;rw[Ys FU];simp only[DD,Aj,ss])
abbrev oV:=Ty.den (.cons (.slice tCommit) (.cons .bool .unit))
abbrev lu (C:Type):=aD.den→Int→Option C
def oT (m:Bool)(K:oV→Option C)(f:lu C):lu C:=λc g=>cond (g<il c.2.1) (ck (bd g c.2.1.length) (cond (!(ix am c.2.1 g).2.1=0) (K ([],ß,())) (fz m tInt (w64 (g+1)) (λj=>f c j)))) (cl m (.slice tCommit) (Aj c) (λr1=>K (r1,ü,())))
def yl (m:Bool)(K:oV→Option C)(f:lu C)(c:aD.den):Option C:=f c 0
def qD:Nat→lu oV:=lp (λ_ _=>ö) λf=>oT ß ä f
def oU (c:aD.den):Option oV:=yl ß ä (qD FU) c
def sH (r:oV):AV :=.tup (aY [.val (.slice tCommit) r.1,.val .bool r.2.1])
def MT:Ent:=evE (.cons aD .unit) sH (zero (.cons (.slice tCommit) (.cons .bool .unit))) λx=>oU x.1
def DY:MS:=⟨1,[(0,[.bb (.slice tInt),.bb (.slice am)])],[(1,.keep),(7,.bb (.slice am)),(8,.bb tInt),(9,.bb tInt)]⟩
def MU:Par:=⟨nB.tab,az [(47,Vp)],λ_=>look [],λ_=>look [(2,DY)]⟩
def Y6:KT:=bq nB.tab [.tmp 2,.tmp 3] [.slice tCommit,.bool]
def MV (f g:Nat)(p:List Nat):Sg→KT→Option AV:=xc (bo fi0 hs0 f 0) MU g f (sub (f22.body.getD .skip) p)
def qC (f n:Nat):lu AV:=λc g=>aN 0 DY (MV f 0 [1,0,1,0,0]) (ak 0 (aW 0 ö (MV f 0 [1,1]) Y6)) n ⟨mkE 19 [(1,.box 0 0),(7,.val (.slice am) c.2.1),(8,.val tInt (il c.2.1)),(9,.val tInt g)],mkH 1 [(0,.box [.val (.slice tInt) c.1,.val (.slice am) c.2.1])]⟩
def QU (f g:Nat):qC f (g+1)=oT ü (sm sH) (qC f g):=Φ
def QV:∀n,qC FU n=mp2 sH (qD n):=cq Φ λf _ h=>(QU FU f).trans (by rw[h];funext _ _;simp only[oT,ss])
def Y5:aj prog 22 (MT):=evX func22 (S:=MU) jd (ag ⟨afH,apa⟩) (tys:=[(.slice tCommit),.bool]) (λf x=>yl ü (sm sH) (qC f f) x.1) (λx=>by show _=Option.map sH _;rw[QV FU];simp only[yl,oU,ss])
def afl:Ent:=sp2 aD (.slice tCommit) (λg f=>w9 g f) λg f=>.tup (aY [.val aD (er g f).1,.val tInt (er g f).2.1])
def aeS:Ent:=sp2 (.slice tCommit) (.slice tInt) (λg f=>F8 g f) λg f=>.val aD (iC g f)
def YM:Ent:=sp0 (.val .bool (Mo))
def Ud (g:Λ)(f:Λ):Bool:=(kQ g f).isSome
def ve (g:Λ)(f:Λ):Bool:=(kQ g f).getD (zero .bool)
def Uh (g:aD.den)(f:aD.den):Bool:=(kR g f).isSome
def C9 (g:aD.den)(f:aD.den):Bool:=(kR g f).getD (zero .bool)
def rA (m:Bool)(K:Bool→Option C)(first:Int)(l:La')(x:(List Int))(cut:Int):Option C:=cl m (.slice tCommit) (jz first l) λr1=>let c:=List.take (List.length r1) r1;cl m (.slice tInt) (oX r1 x) λT=>ce m aD (F8 r1 T) (iC r1 T) λJ=>cl m tInt (mod2_ev cut (w64 (il r1+1))) λp=>let b:=Int.toNat p;let e:=List.take b r1;ck (0≤p&&p≤(r1.length:Int)) (ce m (.cons aD (.cons tInt .unit)) (w9 J (e.drop 0)) (er J (e.drop 0)) (λP=>let h:Bool:=!P.2.1=0;ck (0≤p&&p≤(r1.length:Int)) (ce m (.cons aD (.cons tInt .unit)) (w9 P.1 (c.drop b)) (er P.1 (c.drop b)) (λr=>let i:Bool:=!r.2.1=0;let f:=cond h ü i;ck (0≤p&&p≤(r1.length:Int)) (ce m (.cons aD (.cons tInt .unit)) (w9 J (c.drop b)) (er J (c.drop b)) (λR=>let j:Bool:=!R.2.1=0;ck (0≤p&&p≤(r1.length:Int)) (ce m (.cons aD (.cons tInt .unit)) (w9 R.1 (e.drop 0)) (er R.1 (e.drop 0)) (λr8=>cl m (.cons (.slice tCommit) (.cons .bool .unit)) (oU r.1) λr9=>let a:Bool:=cond r9.2.1 (ve r9.1 r1) ß;let g:Bool:=cond a (C9 r.1 r8.1) ß;let d:Bool:=cond g (il r.1.1=il J.1) ß;nq m [2,0] (!!P.2.1=0) (nq m [2,0] (!cond h ü i) (nq m [2,0] (!cond f ü j) (cond (cond (cond f ü j) ü (!r8.2.1=0)) (K ß) (nm m 2 r9.2.1 (Ud r9.1 r1) (nq m [1] r9.2.1 (nm m 2 a (Uh r.1 r8.1) (nq m [1] a (nq m [2,2,2,2,3,1] g (nq m [1] d (K (cond d Mo ß)))))))))))))))))))
def gH (first:Int)(l:La')(x:(List Int))(cut:Int):Option Bool:=rA ß ä first l x cut
def F4:Ent:=evE (.cons tInt (.cons (.slice be) (.cons (.slice tInt) (.cons tInt .unit)))) ae (zero .bool) λx=>gH x.1 x.2.1 x.2.2.1 x.2.2.2.1
def SM:Par:=⟨nB.tab,az [(7,Gk),(8,MX),(13,aeS),(18,tH),(20,afl),(22,MT),(24,NU),(12,NX),(15,YM)],λ_=>look [],λ_=>look []⟩
def SL:aj prog 5 (F4):=evX func5 (S:=SM) jd (ag ⟨S4,Za,aeR,mod2_x,afk,Y5,Z7,aaa,YL,apa⟩) (tys:=[.bool]) (λf x=>rA ü (sm ae) x.1 x.2.1 x.2.2.1 x.2.2.2.1) (λx=>by show _=Option.map ae _;simp only[rA,gH,ss])
end
end Abs
