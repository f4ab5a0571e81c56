/- The equations of the program's functions. -/
import Derived.Test.YtfgpipfjalmooaaGreatRunD
set_option linter.all false
noncomputable section
namespace Go.Proofs.YtfgpipfjalmooaaGreat
namespace Clo
open Go Go.RowKit Tryz
def Rj [SymVal]{r:RC}(h:Tq r=true):∃d n,r = .ok (.pv (.one (.bl true))) d n:=by
 cases r with
 |no=>cases h
 |ok v d n =>have h:Uz v (.pv (.one (.bl true)))=true:=h;obtain rfl:=Jz h;exact⟨d,n,rfl⟩
def awake_meets:Abs.MeetsD prog 15 [] (.val .bool true):=by
 letI:SymVal:=⟨λ_=>.bool true,λ_=>rfl,λ_=>True⟩
 obtain⟨d,n,j⟩:=Rj Xb;refine yX (λ_=>trivial) Abs.follows (UM Abs.follows XN) (ds:=[]) (λw St g f=>?_) j rfl ⟨_,func15,Φ,Φ⟩;cases g with
 |nil=>trivial
 |cons _ _=>exact f.elim
end Clo
namespace Abs
open Tryz
def aeD:MeetsD prog 15 [] (.val .bool true):=Clo.awake_meets
open Go
def Se:Bool:=true
def adp:aj prog 10 (sp2 (.slice tCommit) (.slice tInt) (λg f=>pI g f) (λg f=>.val (.slice tInt) (dM g f))):=JE λx y h=>agp x y h
def adj:aj prog 13 (sp2 (.slice tCommit) (.slice tInt) (λg f=>pI g f) (λg f=>.val ol (lU g f))):=JE λx y h=>agi x y h
def Xc:aj prog 15 (sp0 (.val .bool (Se))):=afD aeD
section
def sw:TabL:={
 ty:=[(3,tInt),(4,.bool),(9,.str),(22,(.slice bc)),(23,(.slice tInt)),(24,(.slice tCommit)),(29,(.slice aw)),(31,ol),(36,(.slice aa)),(38,tCommit),(42,aO),(44,aa),(45,tInt),(54,aw),(60,bc),(94,(.slice ag)),(96,ah),(144,(.slice eL)),(146,ag),(168,eL)],
 cells:=[(3,1),(4,1),(9,1),(22,1),(23,1),(24,1),(29,1),(31,2),(36,1),(38,5),(42,4),(44,6),(45,1),(54,6),(60,4),(63,1),(64,1),(66,1),(70,1),(73,1),(79,1),(94,1),(96,1),(144,1),(146,3),(168,5)],
 offs:=[((31,0),0),((31,1),1),((38,0),0),((38,1),1),((38,2),2),((38,3),3),((38,4),4),((42,0),0),((42,1),1),((42,2),2),((42,3),3),((44,0),0),((44,1),1),((44,2),2),((54,0),0),((54,1),5),((60,0),0),((60,1),1),((60,2),2),((60,3),3),((96,0),0),((146,0),0),((146,1),1),((146,2),2),((168,0),0),((168,1),1)],
 one:=[],
 elem:=[(22,60),(23,3),(24,38),(29,54),(36,44),(94,146),(144,168)] }
def pd:TabOk prog sw.tab:=TabL.ok Φ
variable{f:Type}
def nS (m:Bool)(K:(List Int)→Option f)(l:Λ):Option f:=cl m ah (Bg l) λr1=>cl m (.slice tInt) (aE r1 0) λg=>K g
def kF (l:Λ):Option (List Int):=nS false some l
def Cc:Ent:=evE (.cons (.slice tCommit) .unit) ay (zero (.slice tInt)) λx=>kF x.1
def OI:Par:=⟨sw.tab,DL [(57,abt)] [] [] [] [(59,jH)],λ_=>look [],λ_=>look []⟩
def OH:aj prog 108 (Cc):=evX func108 (S:=OI) pd (uA ⟨aff,anO⟩ trivial trivial trivial ⟨nT,anO⟩) (tys:=[(.slice tInt)]) (λf x=>nS true (sm ay) x.1) (λx=>by show _=Option.map ay _;simp only[nS,kF,ss])
def vu (m:Bool)(K:Int→Option f)(l:Λ)(x:Int):Option f:=cl m tInt (mod2_ev x 23) λr1=>cond (r1=22) (K 5242887) (cl m (.slice tInt) (kF l) (λj=>ck (!(2:Int)=0) (cl m tInt (ba j (w64 (Int.tdiv x 2))) (λg=>K g))))
def rz (l:Λ)(x:Int):Option Int:=vu false some l x
def IJ:Ent:=evE (.cons (.slice tCommit) (.cons tInt .unit)) av (zero tInt) λx=>rz x.1 x.2.1
def Wx:Par:=⟨sw.tab,aF [(18,xh),(108,Cc),(60,yE)],λ_=>look [],λ_=>look []⟩
def Ww:aj prog 58 (IJ):=evX func58 (S:=Wx) pd (af ⟨mod2_x,OH,CB,anO⟩) (tys:=[tInt]) (λf x=>vu true (sm av) x.1 x.2.1) (λx=>by show _=Option.map av _;simp only[vu,rz,ss])
def yR (m:Bool)(K:Int→Option f)(l:Λ)(x:Int):Option f:=cl m ah (Bg l) λr1=>cl m tInt (mod2_ev x 11) λJ=>cond (J=10) (ck (!(11:Int)=0) (cl m tInt (rz l (w64 (Int.tdiv x 11))) (λC=>K C))) (cl m (.slice tInt) (aE r1 2) (λg=>ck (lm (List.length ([]:List Int)+List.length g)) (cl m (.slice tInt) (aE r1 3) (λj=>ck (lm (List.length ([]++g)+List.length j)) (cl m (.slice tInt) (aE r1 1) (λp=>ck (lm (List.length ([]++g++j)+List.length p)) (cl m tInt (ba ([]++g++j++p) x) (λr=>K r))))))))
def pC (l:Λ)(x:Int):Option Int:=yR false some l x
def NM:Ent:=evE (.cons (.slice tCommit) (.cons tInt .unit)) av (zero tInt) λx=>pC x.1 x.2.1
def Y7:Par:=⟨sw.tab,DL [(57,abt),(18,xh),(58,IJ),(60,yE)] [] [] [] [(59,jH)],λ_=>look [],λ_=>look []⟩
def Y6:aj prog 28 (NM):=evX func28 (S:=Y7) pd (uA ⟨aff,mod2_x,Ww,CB,anO⟩ trivial trivial trivial ⟨nT,anO⟩) (tys:=[tInt]) (λf x=>yR true (sm av) x.1 x.2.1) (λx=>by show _=Option.map av _;simp only[yR,pC,ss])
def oT (m:Bool)(K:(List Int)→Option f)(g:b7 f):b7 f:=λh x out i=>nq m [2,1] (i<il x) (cond (cond (i<il x) (i<4) false) (ck (bd i x.length) (cl m tInt (pC h (ix tInt x i)) (λr1=>ck (lm (List.length out+List.length ([r1]:List Int))) (fz m (.slice tInt) (out++[r1]) (λl=>fz m tInt (w64 (i+1)) λj=>g h x l j))))) (K out))
def xO (m:Bool)(K:(List Int)→Option f)(g:b7 f)(h:Λ)(x:(List Int)):Option f:=g h x [] 0
def qm:Nat→b7 (List Int):=lp (λ_ _ _ _=>none) λf=>oT false some f
def kH (h:Λ)(x:(List Int)):Option (List Int):=xO false some (qm FU) h x
def LX:Ent:=evE (.cons (.slice tCommit) (.cons (.slice tInt) .unit)) ay (zero (.slice tInt)) λx=>kH x.1 x.2.1
def Dm:MS:=⟨0,[],[(0,.dat (.slice tCommit)),(1,.dat (.slice tInt)),(5,.own tInt 3),(6,.dat tInt)]⟩
def LY:Par:=⟨sw.tab,aF [(28,NM)],λ_=>look [],λ_=>look [(3,Dm)]⟩
def Xy:KT:=bB sw.tab [.tmp 4] [(.slice tInt)]
def LZ:=h12 LY f8
def ql (f n:Nat):b7 AV:=λh x out i=>aT 0 Dm (LZ f 0 [1,1,0,1,0,0]) (am 0 (be 0 none (LZ f 0 [1,1,1]) Xy)) n ⟨mkE 27 [(0,.val (.slice tCommit) h),(1,.val (.slice tInt) x),(5,.own 0 0 tInt out),(6,.val tInt i)],mkH 1 [(0,.row tInt 3 0)]⟩
def PH (f g:Nat):ql f (g+1)=oT true (sm ay) (ql f g):=Φ
def PI:∀n,ql FU n=mp4 ay (qm n):=cM Φ λf _ h=>(PH FU f).trans (by rw[h];funext _ _ _ _;simp only[oT,ss])
def Xx:aj prog 8 (LX):=evX func8 (S:=LY) pd (af ⟨Y6,anO⟩) (tys:=[(.slice tInt)]) (λf x=>xO true (sm ay) (ql f f) x.1 x.2.1) (λx=>by show _=Option.map ay _;rw[PI FU];simp only[xO,kH,ss])
def adq:Ent:=sp2 (.slice tCommit) (.slice tInt) (λg f=>pI g f) λg f=>.val (.slice tInt) (dM g f)
def adk:Ent:=sp2 (.slice tCommit) (.slice tInt) (λg f=>pI g f) λg f=>.val ol (lU g f)
def Xd:Ent:=sp0 (.val .bool (Se))
abbrev ig (f:Type):=Λ→(List Int)→(List Int)→(List Int)→(List Int)→Int→Option f
abbrev fO (f:Type):=Λ→ol.den→ol.den→Int→Option f
def jx (m:Bool)(K:Bool→Option f)(l:ig f)(g:fO f):ig f:=λr1 j J p P i=>cond (i<il p) (ck (bd i p.length) (cl m .bool (nP P (ix tInt p i)) (λR=>cond (!R) (K false) (fz m tInt (w64 (i+1)) (λr=>l r1 j J p P r))))) (ce m ol (pI r1 j) (lU r1 j) (λC=>ce m ol (pI r1 ([]++j++J)) (lU r1 ([]++j++J)) λr8=>nq m [2,2,2,3,0] (!!il C.2.1=il r1) (cond (cond (!il C.2.1=il r1) true (!il r8.2.1=il r1)) (K false) (g r1 C r8 0))))
def io (m:Bool)(K:Bool→Option f)(g:fO f):fO f:=λr1 l r8 i=>let d:=ix aw r8.2.1 i;let c:=bd i l.2.1.length;let b:=ix aw l.2.1 i;let a:Bool:=! b.2.1<d.2.1;cond (i<il r1) (ck c (ck (bd i r8.2.1.length) (nq m [2] a (nm m 2 a c (nq m [2,2,2,2,2] a (nm m 2 a c (nq m [2,2,3] a (nm m 2 a (bd i r1.length) (nq m [2,2,2,3,0] a (cond (cond (b.2.1<d.2.1) true (!w64 (il b.1.2.2.2.2.1+b.2.1)=il (ix tCommit r1 i).2.2.2.2.1)) (K false) (fz m tInt (w64 (i+1)) (λj=>g r1 l r8 j)))))))))))) (ce m .bool true Se (λr9=>K r9))
def qZ (m:Bool)(K:Bool→Option f)(p:ig f)(first:Int)(l:La')(x:(List Int))(j:(List Int)):Option f:=cl m (.slice tCommit) (jB first l) λr1=>cl m (.slice tInt) (kH r1 x) λg=>ck (lm (List.length ([]:List Int)+List.length g)) (cl m (.slice tInt) (kH r1 j) (λr=>ck (lm (List.length ([]++g)+List.length r)) (ce m (.slice tInt) (pI r1 g) (dM r1 g) (λJ=>ce m (.slice tInt) (pI r1 ([]++g++r)) (dM r1 ([]++g++r)) λC=>p r1 g r J C 0))))
def fP:Nat→fO Bool:=lp (λ_ _ _ _=>none) λf=>io false some f
def ky:Nat→ig Bool:=lp (λ_ _ _ _ _ _=>none) λf=>jx false some f (fP FU)
def gH (first:Int)(l:La')(x:(List Int))(f:(List Int)):Option Bool:=qZ false some (ky FU) first l x f
def Fd:Ent:=evE (.cons tInt (.cons (.slice bc) (.cons (.slice tInt) (.cons (.slice tInt) .unit)))) ac (zero .bool) λx=>gH x.1 x.2.1 x.2.2.1 x.2.2.2.1
def za:MS:=⟨0,[],[(9,.dat (.slice tCommit)),(10,.dat (.slice tInt)),(11,.dat (.slice tInt)),(12,.dat (.slice tInt)),(13,.dat (.slice tInt)),(14,.dat tInt)]⟩
def wz:MS:=⟨12,[(10,[.dat (.slice tInt),.dat (.slice aw)]),(11,[.dat (.slice tInt),.dat (.slice aw)])],[(9,.dat (.slice tCommit)),(15,.keep),(16,.keep),(17,.dat tInt)]⟩
def Fe:Par:=⟨sw.tab,aF [(7,Fx),(8,LX),(10,adq),(17,xq),(13,adk),(15,Xd)],λ_=>look [],λ_=>look [(6,za),(14,wz)]⟩
def Ff:KT:=bB sw.tab [.tmp 8] [.bool]
def q9:=h12 Fe f6
def kx (f n:Nat):ig AV:=λr1 g p l j i=>aT 0 za (q9 f 0 [1,1,1,1,1,0,1,0,0]) (am 0 (be 0 none (q9 f 0 [1,1,1,1,1,1]) Ff)) n ⟨mkE 114 [(9,.val (.slice tCommit) r1),(10,.val (.slice tInt) g),(11,.val (.slice tInt) ([]++g++p)),(12,.val (.slice tInt) l),(13,.val (.slice tInt) j),(14,.val tInt i)],mkH 0 []⟩
def iZ (f n:Nat):fO AV:=λr1 g r8 i=>aT 0 wz (q9 f 0 [1,1,1,1,1,1,1,1,0,1,0,0]) (am 2 (be 0 none (q9 f 0 [1,1,1,1,1,1,1,1,1]) Ff)) n ⟨mkE 114 [(9,.val (.slice tCommit) r1),(15,.box 10 0),(16,.box 11 0),(17,.val tInt i)],mkH 12 [(10,.box [.val (.slice tInt) g.1,.val (.slice aw) g.2.1]),(11,.box [.val (.slice tInt) r8.1,.val (.slice aw) r8.2.1])]⟩
def KG (f g:Nat):kx f (g+1)=jx true (sm ac) (kx f g) (iZ f f):=Φ
def GY (f g:Nat):iZ f (g+1)=io true (sm ac) (iZ f g):=Φ
def GZ:∀n,iZ FU n=mp4 ac (fP n):=cM Φ λf _ h=>(GY FU f).trans (by rw[h];funext _ _ _ _;simp only[io,ss])
def KH:∀n,kx FU n=mp6 ac (ky n):=cM Φ λf _ h=>(KG FU f).trans (by rw[h,GZ FU];funext _ _ _ _ _ _;simp only[jx,ss])
def Re:aj prog 6 (Fd):=evX func6 (S:=Fe) pd (af ⟨Ry,Xx,adp,AO,adj,Xc,anO⟩) (tys:=[.bool]) (λf x=>qZ true (sm ac) (kx f f) x.1 x.2.1 x.2.2.1 x.2.2.2.1) (λx=>by show _=Option.map ac _;rw[KH FU];simp only[qZ,gH,ss])
end
end Abs
