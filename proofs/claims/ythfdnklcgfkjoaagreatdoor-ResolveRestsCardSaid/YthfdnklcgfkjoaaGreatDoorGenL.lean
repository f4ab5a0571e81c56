/- The equations of the program's functions. -/
import Derived.Test.YthfdnklcgfkjoaaGreatDoorChnS
import Derived.Test.YthfdnklcgfkjoaaGreatDoorCrdE
set_option linter.all false
noncomputable section
namespace Go.Proofs.YthfdnklcgfkjoaaGreatDoor.Abs
open Go Tryz
def aa5:am prog 63 (sp1 aB (λm=>Hk m) (λm=>.val (.slice ac) (jI m))):=d7 aa6
open Go Tryz
section
def yd:TabL:={
 ty:=[(3,tInt),(4,.bool),(9,.str),(25,(.slice ae)),(27,ag),(31,(.slice aa)),(34,(.slice ac)),(39,(.slice tInt)),(42,tCommit),(48,aB),(56,aW),(58,aa),(64,(.slice aM)),(66,ac),(72,aM),(90,ae),(108,ao)],
 cells:=[(3,1),(4,1),(9,1),(25,1),(27,1),(31,1),(34,1),(39,1),(42,5),(48,1),(56,4),(58,6),(64,1),(66,5),(72,5),(90,3),(108,2),(125,1)],
 offs:=[((27,0),0),((42,0),0),((42,1),1),((42,2),2),((42,3),3),((42,4),4),((48,0),0),((56,0),0),((56,1),1),((56,2),2),((56,3),3),((58,0),0),((58,1),1),((58,2),2),((66,0),0),((66,1),1),((66,2),2),((66,3),3),((66,4),4),((72,0),0),((72,1),1),((90,0),0),((90,1),1),((90,2),2),((108,0),0),((108,1),1)],
 one:=[],
 elem:=[(25,90),(31,58),(34,66),(39,3),(64,72)] }
def oG:TabOk prog yd.tab:=TabL.ok Φ
abbrev lL (C:Type):=Λ→Λ→Int→Option C
abbrev aap (C:Type):=Λ→Int→Λ→Option C
variable{C:Type}
def uD (m:Bool)(K:bB→Option C)(f:lL C):aap C:=λr1 j out=>fz m tInt (w64 (j+1)) λg=>f r1 out g
def uC (m:Bool)(K:bB→Option C)(g:lL C):lL C:=λr1 out f=>let b:=w64 (f+1);let a:Bool:=!w64 (f+1)=il r1;cond (f<il r1) (ck (bd f r1.length) (nq m [2] a (nm m 2 a (bd b r1.length) (nq m [2,2,2,3,0] a (cond (cond (w64 (f+1)=il r1) true (!eqD ao (eG (ix aa r1 b)) (eG (ix aa r1 f)))) (ck (lm (List.length out+List.length ([ix aa r1 f]:List aa.den))) (fz m (.slice aa) (out++[ix aa r1 f]) (λj=>uD m K g r1 f j))) (uD m K g r1 f out)))))) (K out)
def ED (m:Bool)(K:bB→Option C)(g:lL C)(f:Λ):Option C:=ce m (.slice aa) (aoy f) (idC f) λr1=>ce m .unit (CU r1) (aov r1) λr2=>g r1 [] 0
def wG:Nat→lL bB:=lp (λ_ _ _=>none) λf=>uC false some f
def uF (f:Λ):Option bB:=ED false some (wG FU) f
def XJ:Ent:=evE (.cons (.slice aa) .unit) bG (zero (.slice aa)) λx=>uF x.1
def Cq:MS:=⟨0,[],[(3,.dat (.slice aa)),(4,.own aa 58),(11,.dat (.slice aa)),(12,.dat tInt),(13,.dat tInt)]⟩
def XK:Par:=⟨yd.tab,aA [(100,SY),(101,TS),(57,jg)],λ_=>look [(9,Cq)],λ_=>look [(5,Cq)]⟩
def ajA:KT:=br yd.tab [.tmp 2] [(.slice aa)]
def XL:=h10 XK f54
def wF (f n:Nat):lL AV:=λr1 out g=>aI 0 Cq (XL f 0 [1,1,1,1,0,1,0,0]) (aj 0 (aP 0 none (XL f 0 [1,1,1,1,1]) ajA)) n ⟨mkE 40 [(3,.val (.slice aa) r1),(4,.own 0 0 aa out),(11,.val (.slice aa) r1),(12,.val tInt (il r1)),(13,.val tInt g)],mkH 1 [(0,.row aa 58 0)]⟩
def aaq (f g:Nat):wF f (g+1)=uC true (sm bG) (wF f g):=Φ
def aar:∀n,wF FU n=mp3 bG (wG n):=cA Φ λf _ h=>(aaq FU f).trans (by rw[h];funext _ _ _;simp only[uC,uD,ss])
def ajz:am prog 54 (XJ):=evX func54 (S:=XK) oG (ah ⟨afu,alP,wt,awN⟩) (tys:=[(.slice aa)]) (λf x=>ED true (sm bG) (wF f f) x.1) (λx=>by show _=Option.map bG _;rw[aar FU];simp only[ED,uF,uD,ss])
abbrev eC (C:Type):=Λ→ag.den→tCommit.den→Lb'→Int→Int→Option C
abbrev nO (C:Type):=Λ→ag.den→Int→tCommit.den→ao.den→Lb'→Int→Option C
abbrev kF (C:Type):=Λ→Int→tCommit.den→Lb'→Int→Option C
abbrev Tj (C:Type):=Λ→ag.den→Int→tCommit.den→Lb'→Int→Option C
def re (m:Bool)(K:ag.den→Option C)(j:nO C)(g:kF C):eC C:=λr1 s c out next f=>cond (f<il s.1) (ck (bd f s.1.length) (ce m ao true (GV (ix ae s.1 f)) (λr2=>j r1 s f c r2 out next))) (ck (0≤next&&next≤(r1.length:Int)) (g r1 next c out 0))
def gT (m:Bool)(K:ag.den→Option C)(f:eC C):Tj C:=λr1 s j c out next=>fz m tInt (w64 (j+1)) λg=>f r1 s c out next g
def rc (m:Bool)(K:ag.den→Option C)(j:nO C)(g:eC C):nO C:=λr1 s f c r2 out next=>let d:=ix aa r1 next;let b:=bd next r1.length;let a:=ix ae s.1 f;nm m 2 (next<il r1) b (nq m [2,2,3,2,1] (next<il r1) (cond (cond (next<il r1) (f8 (eG d) r2≤0) false) (ck b (ce m ae true (lW d c.1) (λr3=>ck (lm (List.length out+List.length ([r3]:List ae.den))) (fz m (.slice ae) (out++[r3]) (λp=>fz m tInt (w64 (next+1)) λl=>j r1 s f c r2 p l))))) (ce m (.cons tInt (.cons .bool .unit)) (JB r1 r2) (nG r1 r2) (λr4=>cond (!r4.2.1) (ce m (.slice aM) (yF a.2.2.1) (idA a.2.2.1) (λr5=>ck (lm (List.length out+List.length ([(a.1,a.2.1,r5,())]:List ae.den))) (fz m (.slice ae) (out++[(a.1,a.2.1,r5,())]) (λr=>gT m K g r1 s f c r next)))) (gT m K g r1 s f c out next)))))
def nT (m:Bool)(K:ag.den→Option C)(g:kF C):kF C:=λr1 next c out f=>let b:=Int.toNat next;let a:=List.take (List.length r1) r1;cond (f<il (a.drop b)) (ck (bd f (a.drop b).length) (ce m ae true (lW (ix aa (a.drop b) f) c.1) (λr6=>ck (lm (List.length out+List.length ([r6]:List ae.den))) (fz m (.slice ae) (out++[r6]) (λl=>fz m tInt (w64 (f+1)) λj=>g r1 next c l j))))) (K (out,()))
def BH (m:Bool)(K:ag.den→Option C)(f:eC C)(s:ag.den)(c:tCommit.den):Option C:=cl m (.slice aa) (uF c.2.2.2.2.1) λr1=>f r1 s c [] 0 0
def nQ (g:eC ag.den):Nat→nO ag.den:=lp (λ_ _ _ _ _ _ _=>none) λf=>rc false some f g
def kG:Nat→kF ag.den:=lp (λ_ _ _ _ _=>none) λf=>nT false some f
def nS:Nat→eC ag.den:=lp (λ_ _ _ _ _ _=>none) λf=>re false some (nQ f FU) (kG FU)
def rf (s:ag.den)(c:tCommit.den):Option ag.den:=BH false some (nS FU) s c
def Tm:Ent:=evE (.cons ag (.cons tCommit .unit)) aR (zero ag) λx=>rf x.1 x.2.1
def nP:MS:=⟨3,[(0,[.drop]),(1,[.dat tInt,.dat (.slice tInt),.dat (.slice tInt),.dat .str,.dat (.slice aa)]),(2,[.own ae 90])],[(3,.keep),(4,.keep),(5,.dat (.slice aa)),(6,.own ae 90),(7,.dat tInt),(19,.dat (.slice ae)),(20,.dat tInt),(21,.dat tInt)]⟩
def IM:MS:=⟨13,[(0,[.drop]),(1,[.dat tInt,.dat (.slice tInt),.dat (.slice tInt),.dat .str,.dat (.slice aa)]),(2,[.own ae 90]),(8,[.dat tInt,.dat tInt,.dat (.slice aM)]),(12,[.dat tInt,.dat tInt])],[(3,.keep),(4,.keep),(5,.dat (.slice aa)),(6,.own ae 90),(7,.dat tInt),(9,.keep),(10,.keep),(19,.dat (.slice ae)),(20,.dat tInt),(21,.dat tInt)]⟩
def D6:MS:=⟨3,[(0,[.drop]),(1,[.dat tInt,.dat (.slice tInt),.dat (.slice tInt),.dat .str,.dat (.slice aa)]),(2,[.own ae 90])],[(3,.keep),(4,.keep),(6,.own ae 90),(75,.dat (.slice aa)),(76,.dat tInt),(77,.dat tInt)]⟩
def Tn:Par:=⟨yd.tab,aA [(54,XJ),(55,wo),(57,jg),(56,u4),(58,xX),(59,N3),(60,LI)],λ_=>look [(14,nP)],λ_=>look [(5,nP),(8,IM),(16,D6)]⟩
def IP:KT:=br yd.tab [.cell 4 27] [ag]
def iW:=h10 Tn f31
def nR (f n:Nat):eC AV:=λr1 s c out next g=>aI 0 nP (iW f 0 [1,1,1,1,0,1,0,0]) (aj 0 (aP 0 none (iW f 0 [1,1,1,1,1]) IP)) n ⟨mkE 91 [(3,.box 1 0),(4,.box 2 0),(5,.val (.slice aa) r1),(6,.own 4 0 ae out),(7,.val tInt next),(19,.val (.slice ae) s.1),(20,.val tInt (il s.1)),(21,.val tInt g)],mkH 5 [(0,.box [.unk]),(1,.box [.val tInt c.1,.val (.slice tInt) c.2.1,.val (.slice tInt) c.2.2.1,.val .str c.2.2.2.1,.val (.slice aa) c.2.2.2.2.1]),(2,.box [.own 3 0 ae []]),(3,.row ae 90 0),(4,.row ae 90 0)]⟩
def sN (f j n:Nat):nO AV:=λr1 s g c r2 out next=>let a:=ix ae s.1 g;aI 0 IM (iW f 0 [1,1,1,1,0,1,0,0,1,1,0,0,1,1,0,0,0]) (aj 2 (aP 0 none (iW f 0 [1,1,1,1,0,1,0,0,1,1,0,0,1,1,1]) (aj 1 (aP 0 (some nP) (iW f 0 [1,1,1,1,0,1,0,0,1,1,1]) (kLp 0 nP (iW f 0 [1,1,1,1,0,1,0,0]) (aj 0 (aP 0 none (iW f 0 [1,1,1,1,1]) IP)) j))))) n ⟨mkE 91 [(3,.box 1 0),(4,.box 2 0),(5,.val (.slice aa) r1),(6,.own 14 0 ae out),(7,.val tInt next),(9,.box 8 0),(10,.box 12 0),(19,.val (.slice ae) s.1),(20,.val tInt (il s.1)),(21,.val tInt g)],mkH 15 [(0,.box [.unk]),(1,.box [.val tInt c.1,.val (.slice tInt) c.2.1,.val (.slice tInt) c.2.2.1,.val .str c.2.2.2.1,.val (.slice aa) c.2.2.2.2.1]),(2,.box [.own 13 0 ae []]),(3,.row ae 90 1),(4,.row ae 90 1),(8,.box [.val tInt a.1,.val tInt a.2.1,.val (.slice aM) a.2.2.1]),(12,.box [.val tInt r2.1,.val tInt r2.2.1]),(13,.row ae 90 0),(14,.row ae 90 0)]⟩
def ph (f n:Nat):kF AV:=λr1 next c out g=>let b:=Int.toNat next;let a:=List.take (List.length r1) r1;aI 0 D6 (iW f 0 [1,1,1,1,1,0,1,0,0]) (aj 4 (aP 0 none (iW f 0 [1,1,1,1,1,1]) IP)) n ⟨mkE 91 [(3,.box 1 0),(4,.box 2 0),(6,.own 4 0 ae out),(75,.val (.slice aa) (a.drop b)),(76,.val tInt (il (a.drop b))),(77,.val tInt g)],mkH 5 [(0,.box [.unk]),(1,.box [.val tInt c.1,.val (.slice tInt) c.2.1,.val (.slice tInt) c.2.2.1,.val .str c.2.2.2.1,.val (.slice aa) c.2.2.2.2.1]),(2,.box [.own 3 0 ae []]),(3,.row ae 90 0),(4,.row ae 90 0)]⟩
def Wi (f g:Nat):nR f (g+1)=re true (sm aR) (sN f g f) (ph f f):=Φ
def Wg (f g j:Nat):sN f g (j+1)=rc true (sm aR) (sN f g j) (nR f g):=Φ
def Tk (f g:Nat):ph f (g+1)=nT true (sm aR) (ph f g):=Φ
def Wh (j:Nat){f:eC ag.den}(g:nR FU j=mp6 aR f):∀n,sN FU j n=mp7 aR (nQ f n):=cA Φ λl _ h=>(Wg FU j l).trans (by rw[h,g];funext _ _ _ _ _ _ _;simp only[rc,gT,ss])
def Tl:∀n,ph FU n=mp5 aR (kG n):=cA Φ λf _ h=>(Tk FU f).trans (by rw[h];funext _ _ _ _ _;simp only[nT,gT,ss])
def Wj:∀n,nR FU n=mp6 aR (nS n):=cA Φ λf _ h=>(Wi FU f).trans (by rw[Wh f h FU,Tl FU];funext _ _ _ _ _ _;simp only[re,gT,ss])
def age:am prog 31 (Tm):=evX func31 (S:=Tn) oG (ah ⟨ajz,ZR,wt,It,Tu,ajY,aa8,awN⟩) (tys:=[ag]) (λf x=>BH true (sm aR) (nR f f) x.1 x.2.1) (λx=>by show _=Option.map aR _;rw[Wj FU];simp only[BH,rf,gT,ss])
abbrev gH:=Lc'
def Ep (m:Bool)(K:gH→Option C)(s:ag.den)(w:Λ):Option C:=cl m ag (rf s (1048577,[],[],[],w,())) λr1=>ce m (.slice ac) (W8 r1) (nV r1) λr2=>K r2
def j4 (s:ag.den)(w:Λ):Option gH:=Ep false some s w
def d8 (r:gH):AV :=.val (.slice ac) r
def ahg:Ent:=evE (.cons ag (.cons (.slice aa) .unit)) d8 (zero (.slice ac)) λx=>j4 x.1 x.2.1
def ahh:Par:=⟨yd.tab,aA [(31,Tm),(30,Uy)],λ_=>look [],λ_=>look []⟩
def ahf:am prog 8 (ahg):=evX func8 (S:=ahh) oG (ah ⟨age,al6,awN⟩) (tys:=[(.slice ac)]) (λf x=>Ep true (sm d8) x.1 x.2.1) (λx=>by show _=Option.map d8 _;simp only[Ep,j4,ss])
abbrev jO (C:Type):=La'→Int→Option C
def ma (m:Bool)(K:Bool→Option C)(f:jO C):jO C:=λl i=>cond (i<il l) (ck (bd i l.length) (ck (bd 0 l.length) (cond (!eqD aW (ix aM l i).2.1 (ix aM l 0).2.1) (K true) (fz m tInt (w64 (i+1)) (λg=>f l g))))) (K false)
def vD (m:Bool)(K:Bool→Option C)(f:jO C)(l:La'):Option C:=f l 1
def oA:Nat→jO Bool:=lp (λ_ _=>none) λf=>ma false some f
def mb (l:La'):Option Bool:=vD false some (oA FU) l
def JS:Ent:=evE (.cons (.slice aM) .unit) af (zero .bool) λx=>mb x.1
def Db:MS:=⟨0,[],[(0,.dat (.slice aM)),(3,.dat tInt)]⟩
def JT:Par:=⟨yd.tab,aA [],λ_=>look [],λ_=>look [(2,Db)]⟩
def YQ:KT:=br yd.tab [.tmp 2] [.bool]
def JU:=h10 JT f62
def ow (f n:Nat):jO AV:=λl i=>aI 0 Db (JU f 0 [1,0,1,0,0]) (aj 0 (aP 0 none (JU f 0 [1,1]) YQ)) n ⟨mkE 20 [(0,.val (.slice aM) l),(3,.val tInt i)],mkH 0 []⟩
def Ph (f g:Nat):ow f (g+1)=ma true (sm af) (ow f g):=Φ
def Pi:∀n,ow FU n=mp2 af (oA n):=cA Φ λf _ h=>(Ph FU f).trans (by rw[h];funext _ _;simp only[ma,ss])
def YP:am prog 62 (JS):=evX func62 (S:=JT) oG (ah trivial) (tys:=[.bool]) (λf x=>vD true (sm af) (ow f f) x.1) (λx=>by show _=Option.map af _;rw[Pi FU];simp only[vD,mb,ss])
def aa7:Ent:=sp1 aB (λf=>Hk f) λf=>.val (.slice ac) (jI f)
abbrev qs (C:Type):=ag.den→Lc'→Int→Option C
abbrev ac1 (C:Type):=Int→ag.den→Lc'→Option C
def zT (m:Bool)(K:gH→Option C)(f:qs C):ac1 C:=λi s out=>fz m tInt (w64 (i+1)) λg=>f s out g
def zS (m:Bool)(K:gH→Option C)(f:qs C):qs C:=λs out i=>let a:=ix ae s.1 i;cond (i<il s.1) (ck (bd i s.1.length) (cl m .bool (mb a.2.2.1) (λr1=>cond r1 (ck (lm (List.length out+List.length ([(1,a.1,a.2.1,a.2.2.1,[],())]:List ac.den))) (fz m (.slice ac) (out++[(1,a.1,a.2.1,a.2.2.1,[],())]) (λg=>zT m K f i s g))) (zT m K f i s out)))) (ce m aB (stG s) (bh s) (λr2=>ce m (.slice ac) (Hk r2) (jI r2) λr3=>ck (lm (out.length+r3.length)) (K (out++r3))))
def M1 (m:Bool)(K:gH→Option C)(f:qs C)(s:ag.den):Option C:=f s [] 0
def zR:Nat→qs gH:=lp (λ_ _ _=>none) λf=>zS false some f
def zU (s:ag.den):Option gH:=M1 false some (zR FU) s
def ac4:Ent:=evE (.cons ag .unit) d8 (zero (.slice ac)) λx=>zU x.1
def Gi:MS:=⟨1,[(0,[.dat (.slice ae)])],[(1,.keep),(3,.own ac 66),(4,.dat tInt)]⟩
def ac5:Par:=⟨yd.tab,aA [(62,JS),(16,Au),(63,aa7)],λ_=>look [(4,Gi)],λ_=>look [(3,Gi)]⟩
def al8:KT:=br yd.tab [.tmp 2] [(.slice ac)]
def ac6:=h10 ac5 f33
def zQ (f n:Nat):qs AV:=λs out i=>aI 0 Gi (ac6 f 0 [1,1,0,1,0,0]) (aj 0 (aP 0 none (ac6 f 0 [1,1,1]) al8)) n ⟨mkE 36 [(1,.box 0 0),(3,.own 1 0 ac out),(4,.val tInt i)],mkH 2 [(0,.box [.val (.slice ae) s.1]),(1,.row ac 66 0)]⟩
def ac2 (f g:Nat):zQ f (g+1)=zS true (sm d8) (zQ f g):=Φ
def ac3:∀n,zQ FU n=mp3 d8 (zR n):=cA Φ λf _ h=>(ac2 FU f).trans (by rw[h];funext _ _ _;simp only[zS,zT,ss])
def al7:am prog 33 (ac4):=evX func33 (S:=ac5) oG (ah ⟨YP,Rd,aa5,awN⟩) (tys:=[(.slice ac)]) (λf x=>M1 true (sm d8) (zQ f f) x.1) (λx=>by show _=Option.map d8 _;rw[ac3 FU];simp only[M1,zU,zT,ss])
abbrev qq (C:Type):=Λ→Int→Lb'→Option C
def tU (m:Bool)(K:gH→Option C)(g:qq C):qq C:=λw i f=>let b:=bd i w.length;let a:=ix aa w i;cond (i<il w) (ck b (ck b (ck b (ce m ag (acL (f,()) a.1 a.2.1 [(1048577,a.2.2.1,())]) (de (f,()) a.1 a.2.1 [(1048577,a.2.2.1,())]) (λr1=>fz m tInt (w64 (i+1)) λj=>g w j r1.1))))) (cl m (.slice ac) (zU (f,())) (λr2=>K r2))
def Eo (m:Bool)(K:gH→Option C)(f:qq C)(s:ag.den)(w:Λ):Option C:=fz m (.slice ae) s.1 λg=>f w 0 g
def v7:Nat→qq gH:=lp (λ_ _ _=>none) λf=>tU false some f
def jZ (s:ag.den)(w:Λ):Option gH:=Eo false some (v7 FU) s w
def ahc:Ent:=evE (.cons ag (.cons (.slice aa) .unit)) d8 (zero (.slice ac)) λx=>jZ x.1 x.2.1
def Kq:MS:=⟨1,[(0,[.dat (.slice ae)])],[(1,.dat (.slice aa)),(2,.keep),(5,.dat tInt)]⟩
def W1:Par:=⟨yd.tab,aA [(32,MH),(33,ac4)],λ_=>look [],λ_=>look [(2,Kq)]⟩
def ahe:KT:=br yd.tab [.tmp 4] [(.slice ac)]
def W2:=h10 W1 f9
def vZ (f n:Nat):qq AV:=λw i g=>aI 0 Kq (W2 f 0 [1,0,1,0,0]) (aj 0 (aP 0 none (W2 f 0 [1,1]) ahe)) n ⟨mkE 33 [(1,.val (.slice aa) w),(2,.box 0 0),(5,.val tInt i)],mkH 1 [(0,.box [.val (.slice ae) g])]⟩
def Zs (f g:Nat):vZ f (g+1)=tU true (sm d8) (vZ f g):=Φ
def Zt:∀n,vZ FU n=mp3 d8 (v7 n):=cA Φ λf _ h=>(Zs FU f).trans (by rw[h];funext _ _ _;simp only[tU,ss])
def ahb:am prog 9 (ahc):=evX func9 (S:=W1) oG (ah ⟨acF,al7,awN⟩) (tys:=[(.slice ac)]) (λf x=>Eo true (sm d8) (vZ f f) x.1 x.2.1) (λx=>by show _=Option.map d8 _;rw[Zt FU];simp only[Eo,jZ,ss])
abbrev ql (C:Type):=La'→La'→Int→Option C
def tM (m:Bool)(K:Bool→Option C)(f:ql C):ql C:=λa b i=>cond (i<il a) (ck (bd i a.length) (ck (bd i b.length) (cond (!eqD aM (ix aM a i) (ix aM b i)) (K false) (fz m tInt (w64 (i+1)) (λg=>f a b g))))) (K true)
def El (m:Bool)(K:Bool→Option C)(f:ql C)(a:La')(b:La'):Option C:=cond (!il a=il b) (K false) (f a b 0)
def vW:Nat→ql Bool:=lp (λ_ _ _=>none) λf=>tM false some f
def qm (a:La')(b:La'):Option Bool:=El false some (vW FU) a b
def WS:Ent:=evE (.cons (.slice aM) (.cons (.slice aM) .unit)) af (zero .bool) λx=>qm x.1 x.2.1
def Ki:MS:=⟨0,[],[(0,.dat (.slice aM)),(1,.dat (.slice aM)),(5,.dat tInt)]⟩
def WT:Par:=⟨yd.tab,aA [],λ_=>look [],λ_=>look [(4,Ki)]⟩
def MJ:KT:=br yd.tab [.tmp 4] [.bool]
def WU:=h10 WT f29
def vV (f n:Nat):ql AV:=λa b i=>aI 0 Ki (WU f 0 [1,1,0,1,0,0]) (aj 0 (aP 0 none (WU f 0 [1,1,1]) MJ)) n ⟨mkE 26 [(0,.val (.slice aM) a),(1,.val (.slice aM) b),(5,.val tInt i)],mkH 0 []⟩
def Zj (f g:Nat):vV f (g+1)=tM true (sm af) (vV f g):=Φ
def Zk:∀n,vV FU n=mp3 af (vW n):=cA Φ λf _ h=>(Zj FU f).trans (by rw[h];funext _ _ _;simp only[tM,ss])
def ag8:am prog 29 (WS):=evX func29 (S:=WT) oG (ah trivial) (tys:=[.bool]) (λf x=>El true (sm af) (vV f f) x.1 x.2.1) (λx=>by show _=Option.map af _;rw[Zk FU];simp only[El,qm,ss])
abbrev fw (C:Type):=Lc'→Lc'→Int→Option C
abbrev mB (C:Type):=Lc'→Lc'→Int→Int→Option C
def Um (g:La')(f:La'):Bool:=(qm g f).isSome
def yn (g:La')(f:La'):Bool:=(qm g f).getD (zero .bool)
def lE (m:Bool)(K:Bool→Option C)(r:mB C):fw C:=λa b i=>let l:=bd i b.length;let k:=bd i a.length;let h:=ix ac b i;let g:=ix ac a i;let p:Bool:=! g.2.1=h.2.1;let o:Bool:=!yn g.2.2.2.1 h.2.2.2.1;let n:Bool:=!! g.1=h.1;let e:Bool:=!cond (! g.1=h.1) true p;let d:Bool:=! g.2.2.1=h.2.2.1;let c:Bool:=cond (! g.1=h.1) true p;let q:=cond c true d;let j:Bool:=!cond c true d;let f:Bool:=!cond q true o;cond (i<il a) (ck k (ck l (nm m 2 n k (nq m [2,2] n (nm m 2 n l (nq m [2,2,3,0] n (nm m 2 e k (nq m [2,2] e (nm m 2 e l (nq m [2,2,3,0] e (nm m 2 j k (nq m [2,2] j (nm m 2 j l (nq m [2,2] j (nm m 2 j (Um g.2.2.2.1 h.2.2.2.1) (nq m [2,0] j (nm m 2 f k (nq m [2,2,2] f (nm m 2 f l (nq m [2,2,2,3,0] f (cond (cond (cond q true o) true (!il g.2.2.2.2.1=il h.2.2.2.2.1)) (K false) (r a b i 0)))))))))))))))))))))) (K true)
def qj (m:Bool)(K:Bool→Option C)(g:mB C)(j:fw C):mB C:=λa b i f=>let e:=ix ac b i;let d:=bd i a.length;let c:=ix ac a i;ck d (cond (f<il c.2.2.2.2.1) (ck d (ck (bd f c.2.2.2.2.1.length) (ck (bd i b.length) (ck (bd f e.2.2.2.2.1.length) (cond (!ix tInt c.2.2.2.2.1 f=ix tInt e.2.2.2.2.1 f) (K false) (fz m tInt (w64 (f+1)) (λl=>g a b i l))))))) (fz m tInt (w64 (i+1)) (λp=>j a b p)))
def zI (m:Bool)(K:Bool→Option C)(f:fw C)(a:Lc')(b:Lc'):Option C:=cond (!il a=il b) (K false) (f a b 0)
def mC (g:fw Bool):Nat→mB Bool:=lp (λ_ _ _ _=>none) λf=>qj false some f g
def mE:Nat→fw Bool:=lp (λ_ _ _=>none) λf=>lE false some (mC f FU)
def gX (a:Lc')(b:Lc'):Option Bool:=zI false some (mE FU) a b
def acN:Ent:=evE (.cons (.slice ac) (.cons (.slice ac) .unit)) af (zero .bool) λx=>gX x.1 x.2.1
def ym:MS:=⟨0,[],[(0,.dat (.slice ac)),(1,.dat (.slice ac)),(5,.dat tInt)]⟩
def FX:MS:=⟨0,[],[(0,.dat (.slice ac)),(1,.dat (.slice ac)),(5,.dat tInt),(6,.dat tInt)]⟩
def P7:Par:=⟨yd.tab,aA [(29,WS)],λ_=>look [],λ_=>look [(4,ym),(9,FX)]⟩
def qk:=h10 P7 f7
def mD (f n:Nat):fw AV:=λa b i=>aI 0 ym (qk f 0 [1,1,0,1,0,0]) (aj 0 (aP 0 none (qk f 0 [1,1,1]) MJ)) n ⟨mkE 111 [(0,.val (.slice ac) a),(1,.val (.slice ac) b),(5,.val tInt i)],mkH 0 []⟩
def rN (f j n:Nat):mB AV:=λa b i g=>aI 0 FX (qk f 0 [1,1,0,1,0,0,1,0,0,1,1,0,0]) (aj 2 (aj 1 (aP 0 none (qk f 0 [1,1,0,1,0,0,1,1]) (kLp 0 ym (qk f 0 [1,1,0,1,0,0]) (aj 0 (aP 0 none (qk f 0 [1,1,1]) MJ)) j)))) n ⟨mkE 111 [(0,.val (.slice ac) a),(1,.val (.slice ac) b),(5,.val tInt i),(6,.val tInt g)],mkH 0 []⟩
def Uk (f g:Nat):mD f (g+1)=lE true (sm af) (rN f g f):=Φ
def Ui (f g j:Nat):rN f g (j+1)=qj true (sm af) (rN f g j) (mD f g):=Φ
def Uj (j:Nat){f:fw Bool}(g:mD FU j=mp3 af f):∀n,rN FU j n=mp4 af (mC f n):=cA Φ λl _ h=>(Ui FU j l).trans (by rw[h,g];funext _ _ _ _;simp only[qj,ss])
def Ul:∀n,mD FU n=mp3 af (mE n):=cA Φ λf _ h=>(Uk FU f).trans (by rw[Uj f h FU];funext _ _ _;simp only[lE,ss])
def acM:am prog 7 (acN):=evX func7 (S:=P7) oG (ah ⟨ag8,awN⟩) (tys:=[.bool]) (λf x=>zI true (sm af) (mD f f) x.1 x.2.1) (λx=>by show _=Option.map af _;rw[Ul FU];simp only[zI,gX,ss])
end
