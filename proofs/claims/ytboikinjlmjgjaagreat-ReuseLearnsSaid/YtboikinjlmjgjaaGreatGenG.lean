/- The equations of the program's functions on the abstract machine. (Printed by gen.py; each is checked by the kernel.) -/
import Derived.Test.YtboikinjlmjgjaaGreatGenF
import Derived.Test.YtboikinjlmjgjaaGreatChecked
namespace Go.Proofs.YtboikinjlmjgjaaGreat.Abs
abbrev ap:Ty:=(.cons aa (.cons .bool (.cons .str (.cons aa .unit))))
abbrev ac:Ty:=(.cons aa (.cons aa (.cons ap .unit)))
abbrev ae:Ty:=(.cons aa (.cons (.slice aa) (.cons (.slice aa) (.cons .str (.cons (.slice ac) .unit)))))
abbrev aM:Ty:=(.cons (.slice ac) .unit)
abbrev az:Ty:=(.cons .str (.cons .str .unit))
end Go.Proofs.YtboikinjlmjgjaaGreat.Abs
namespace Go.Proofs.YtboikinjlmjgjaaGreat.Abs
end Go.Proofs.YtboikinjlmjgjaaGreat.Abs
namespace Go.Proofs.YtboikinjlmjgjaaGreat.Abs
open Go
set_option linter.unusedSimpArgs false
set_option linter.unusedVariables false
noncomputable section
def ct:TabL:={
 ty:=[(3,aa),(4,.bool),(5,(.int .u8)),(9,.str),(23,(.slice aa)),(24,(.slice ac)),(26,ae),(48,aM),(51,ap),(60,aa),(63,(.slice .tree)),(86,ac),(101,(.slice (.slice aa))),(103,(.slice .str)),(105,.tree),(152,(.slice (.int .u8))),(156,(.slice am)),(164,am),(212,(.slice az)),(215,az),(221,bB)],
 cells:=[(3,1),(4,1),(5,1),(9,1),(23,1),(24,1),(26,5),(48,1),(51,4),(60,1),(63,1),(86,6),(101,1),(103,1),(105,4),(152,1),(156,1),(164,3),(212,1),(215,2),(221,4)],
 offs:=[((26,0),0),((26,1),1),((26,2),2),((26,3),3),((26,4),4),((48,0),0),((51,0),0),((51,1),1),((51,2),2),((51,3),3),((86,0),0),((86,1),1),((86,2),2),((105,0),0),((105,1),1),((105,2),2),((105,3),3),((164,0),0),((164,1),1),((164,2),2),((215,0),0),((215,1),1),((221,0),0),((221,1),1),((221,2),2),((221,3),3)],
 one:=[(105,4)],
 elem:=[(23,3),(24,86),(63,105),(101,23),(103,9),(152,5),(156,164),(212,215)] }
theorem bf:TabOk Tryz.prog ct.tab:=TabL.ok (by kernel_rfl)
def IO (m:Bool) {β:Type} (K:Int→Option β) (x:Int) (t1:Int):Option β:=(bif (decide (t1<1)) then (K 0) else (ck (!decide (t1=0)) (ck (!decide (t1=0)) (K (Int.tmod (w64 ((Int.tmod x t1)+t1)) t1)))))
def bC (x:Int) (t1:Int):Option Int:=IO false some x t1
def yB:Ent:=evE (.cons aa (.cons aa .unit)) ax (zero aa) (fun x=>bC x.1 x.2.1)
def uL:Par:=⟨ct.tab,(ay []),(fun _=>ao []),(fun _=>ao [])⟩
theorem qZ:ar Tryz.prog 7 (yB):=evX Tryz.func7 (S:=uL) bf (ah trivial) (tys:=[aa]) (fun fuel x=>IO true (sm ax) x.1 x.2.1) (fun x=>by show _=Option.map ax _; simp only [IO,bC,ss])
def aek (m:Bool) {β:Type} (K:(List Str)→Option β) (x:Int):Option β:=(cl m aa (bC x 8) fun r1=>(bif (decide (r1=0)) then (K [[109,111,100,117,108,101,32,77,10,100,101,102,32,102,40,120,58,32,73,110,116,44,32,121,58,32,73,110,116,41,58,32,73,110,116,32,61,32,120,32,43,32,121,10,100,101,102,32,103,40,41,58,32,73,110,116,32,61,32,102,40,49,44,32,50,41,10]]) else (bif (decide (r1=1)) then (K [[109,111,100,117,108,101,32,77,10,100,101,102,32,102,40,120,58,32,73,110,116,41,58,32,73,110,116,32,61,32,120,32,35,32,99,10],[109,111,100,117,108,101,32,78,10,100,101,102,32,107,40,41,58,32,73,110,116,32,61,32,77,46,102,40,55,41,10]]) else (bif (decide (r1=2)) then (K [[109,111,100,117,108,101,32,77,32,116,121,112,101,32,84,32,61,32,91,73,110,116,93,32,100,101,102,32,104,40,97,58,32,84,41,58,32,84,32,61,32,91,49,44,32,50,93]]) else (bif (decide (r1=3)) then (K [[109,111,100,117,108,101,32,77,10,100,101,102,32,102,40,98,58,32,66,111,111,108,41,58,32,73,110,116,32,61,32,105,102,32,98,32,116,104,101,110,32,49,32,101,108,115,101,32,108,101,116,32,97,32,61,32,50,32,105,110,32,97,10]]) else (bif (decide (r1=4)) then (K [[109,111,100,117,108,101,32,77,10]]) else (bif (decide (r1=5)) then (K [[109,111,100,117,108,101,32,77,10,100,101,102,32,102,40,41,58,32,84,101,120,116,32,61,32,34,97,34,10,100,101,102,32,103,40,41,58,32,84,101,120,116,32,61,32,40,102,40,41,41,10]]) else (bif (decide (r1=6)) then (K [[109,111,100,117,108,101,32,77,32,100,101,102,32,102,40,120,58,32,73,110,116,41,58,32,73,110,116,32,61,32,102,40,120,41,32,42,32,50,32,100,101,102,32,103,40,120,58,32,73,110,116,44,32,121,58,32,73,110,116,41,58,32,66,111,111,108,32,61,32,102,40,120,41,32,60,32,102,40,102,40,121,41,41]]) else (K [[109,111,100,117,108,101,32,77,10,100,101,102,32,102,40,120,58,32,73,110,116,41,58,32,73,110,116,32,61,32,103,40,120,41,10],[109,111,100,117,108,101,32,78,10,100,101,102,32,102,40,41,58,32,73,110,116,32,61,32,63,10]])))))))))
def GP (x:Int):Option (List Str):=aek false some x
def NP (r:(List Str)):AV := .val (.slice .str) r
def akZ:Ent:=evE (.cons aa .unit) NP (zero (.slice .str)) (fun x=>GP x.1)
def am0:Par:=⟨ct.tab,(ay [(7,yB)]),(fun _=>ao []),(fun _=>ao [])⟩
theorem amZ:ar Tryz.prog 56 (akZ):=evX Tryz.func56 (S:=am0) bf (ah ⟨qZ,trivial⟩) (tys:=[(.slice .str)]) (fun fuel x=>aek true (sm NP) x.1) (fun x=>by show _=Option.map NP _; simp only [aek,GP,ss])
abbrev DM (β:Type):=(List Str)→(List Tree)→Int→Option β
def aat (m:Bool) {β:Type} (K:(List Tree)→Option β) (k_l4:DM β):DM β:=fun r1 p i=>(bif (decide (i<(il r1))) then (ck (bd i r1.length) (cl m (.cons .tree (.cons aa (.cons aa .unit))) (aa5 (ix .str r1 i)) fun r2=>(ck (lm (List.length p+List.length ([(te (r2.1))]:List Tree))) (fz m (.slice .tree) (p++[(te (r2.1))]) fun y1_=>(fz m aa (w64 (i+1)) fun y2_=>(k_l4 r1 y1_ y2_)))))) else (K p))
def aej (m:Bool) {β:Type} (K:(List Tree)→Option β) (k_l4:DM β) (x:Int):Option β:=(cl m (.slice .str) (GP x) fun r1=>(k_l4 r1 [] 0))
def aas:Nat→DM (List Tree):=lp (fun _ _ _=>none) fun k_l4=>aat false some k_l4
def GO (x:Int):Option (List Tree):=aej false some (aas FU) x
def aaq (r:(List Tree)):AV := .val (.slice .tree) r
def akW:Ent:=evE (.cons aa .unit) aaq (zero (.slice .tree)) (fun x=>GO x.1)
def aar:MS:=⟨0,[],[(3,.own .tree 105),(4,.dat (.slice .str)),(5,.dat aa)]⟩
def akX:Par:=⟨ct.tab,(ay [(56,akZ),(57,ald)]),(fun _=>ao []),(fun _=>ao [(4,aar)])⟩
def amY:KT:=bc ct.tab [.tmp 2] [(.slice .tree)]
def akY (fuel lo:Nat) (p:List Nat):Sg→KT→Option AV:=xc (aD fi0 hs0 fuel 0) akX lo fuel (sub ((Tryz.f23.body).getD .skip) p)
def Jx (fuel n:Nat):DM AV:=fun r1 p i=>aB 0 aar (akY fuel 0 [1,1,1,0,1,0,0]) (ai 0 (aw 0 none (akY fuel 0 [1,1,1,1]) amY)) n ⟨mkE 31 [(3,.own 0 0 .tree p),(4,.val (.slice .str) r1),(5,.val aa i)],mkH 1 [(0,.row .tree 105 0)]⟩
theorem aiG (fuel n4:Nat):Jx fuel (n4+1)=aat true (sm aaq) (Jx fuel n4):=by kernel_rfl
theorem aiH : ∀ n,Jx FU n=mp3 aaq (aas n):=bo (by kernel_rfl) fun n4 _ h=>(aiG FU n4).trans (by rw [h]; funext _ _ _; simp only [aat,ss])
theorem amX:ar Tryz.prog 23 (akW):=evX Tryz.func23 (S:=akX) bf (ah ⟨amZ,am3,trivial⟩) (tys:=[(.slice .tree)]) (fun fuel x=>aej true (sm aaq) (Jx fuel fuel) x.1) (fun x=>by show _=Option.map aaq _; rw [aiH FU]; simp only [aej,GO,ss])
def xL (m:Bool) {β:Type} (K:Int→Option β) (text:Str):Option β:=(nm m 1 (!(decide (text=[]))) (bd 0 text.length) (nq m [2,0] (!(decide (text=[]))) (nm m 1 (!(bif (decide (text=[])) then true else (o8 (ixs text 0)))) (bd 0 text.length) (nq m [2,0] (!(bif (decide (text=[])) then true else (o8 (ixs text 0)))) (bif (bif (bif (decide (text=[])) then true else (o8 (ixs text 0))) then true else (decide ((ixs text 0)=35))) then (K 0) else (cl m bB (oe text 0) fun r1=>(nq m [2,2,3,0] (!(!decide (r1.2.2.1=0))) (bif (bif (!decide (r1.2.2.1=0)) then true else (!decide (r1.1=(il text)))) then (K 0) else (K (r1.2.1))))))))))
def fc (text:Str):Option Int:=xL false some text
def xM:Ent:=evE (.cons .str .unit) ax (zero aa) (fun x=>fc x.1)
def ace:Par:=⟨ct.tab,(ay [(198,qs),(172,IH)]),(fun _=>ao []),(fun _=>ao [])⟩
theorem ED:ar Tryz.prog 180 (xM):=evX Tryz.func180 (S:=ace) bf (ah ⟨BT,Ts,trivial⟩) (tys:=[aa]) (fun fuel x=>xL true (sm ax) x.1) (fun x=>by show _=Option.map ax _; simp only [xL,fc,ss])
def afO (x0:Str):Bool:=(fc x0).isSome
def afP (x0:Str):Int:=(fc x0).getD (zero aa)
def aiF (m:Bool) {β:Type} (K:Bool→Option β) (a:Str) (b:Str):Option β:=(cl m aa (fc a) fun r1=>(nm m 1 (!(decide (r1=0))) (afO b) (nq m [2,0] (!(decide (r1=0))) (bif (bif (decide (r1=0)) then true else (decide ((afP b)=0))) then (K false) else (ck (decide (a.length+b.length≤SO)) (cl m (.cons (.slice am) (.cons .str (.cons aa (.cons aa .unit)))) (Ul (a++b)) fun r2=>(nq m [2,2,0] (!(!decide (r2.2.2.2.1=0))) (nq m [2,0] (!(bif (!decide (r2.2.2.2.1=0)) then true else (!decide ((il r2.1)=2)))) (nm m 1 (!(bif (bif (!decide (r2.2.2.2.1=0)) then true else (!decide ((il r2.1)=2))) then true else (!decide (r2.2.1=[])))) (bd 0 r2.1.length) (nq m [2,2,3,0] (!(bif (bif (!decide (r2.2.2.2.1=0)) then true else (!decide ((il r2.1)=2))) then true else (!decide (r2.2.1=[])))) (nm m 1 (!(bif (bif (bif (!decide (r2.2.2.2.1=0)) then true else (!decide ((il r2.1)=2))) then true else (!decide (r2.2.1=[]))) then true else (!decide ((ix am r2.1 0).2.2.1=a)))) (bd 0 r2.1.length) (nq m [2,2,2,0] (!(bif (bif (bif (!decide (r2.2.2.2.1=0)) then true else (!decide ((il r2.1)=2))) then true else (!decide (r2.2.1=[]))) then true else (!decide ((ix am r2.1 0).2.2.1=a)))) (nm m 1 (!(bif (bif (bif (bif (!decide (r2.2.2.2.1=0)) then true else (!decide ((il r2.1)=2))) then true else (!decide (r2.2.1=[]))) then true else (!decide ((ix am r2.1 0).2.2.1=a))) then true else (!decide ((ix am r2.1 0).2.1=[])))) (bd 1 r2.1.length) (nq m [2,2,3,0] (!(bif (bif (bif (bif (!decide (r2.2.2.2.1=0)) then true else (!decide ((il r2.1)=2))) then true else (!decide (r2.2.1=[]))) then true else (!decide ((ix am r2.1 0).2.2.1=a))) then true else (!decide ((ix am r2.1 0).2.1=[])))) (nm m 1 (!(bif (bif (bif (bif (bif (!decide (r2.2.2.2.1=0)) then true else (!decide ((il r2.1)=2))) then true else (!decide (r2.2.1=[]))) then true else (!decide ((ix am r2.1 0).2.2.1=a))) then true else (!decide ((ix am r2.1 0).2.1=[]))) then true else (!decide ((ix am r2.1 1).2.2.1=b)))) (bd 1 r2.1.length) (nq m [2,2,2,0] (!(bif (bif (bif (bif (bif (!decide (r2.2.2.2.1=0)) then true else (!decide ((il r2.1)=2))) then true else (!decide (r2.2.1=[]))) then true else (!decide ((ix am r2.1 0).2.2.1=a))) then true else (!decide ((ix am r2.1 0).2.1=[]))) then true else (!decide ((ix am r2.1 1).2.2.1=b)))) (K (bif (bif (bif (bif (bif (bif (!decide (r2.2.2.2.1=0)) then true else (!decide ((il r2.1)=2))) then true else (!decide (r2.2.1=[]))) then true else (!decide ((ix am r2.1 0).2.2.1=a))) then true else (!decide ((ix am r2.1 0).2.1=[]))) then true else (!decide ((ix am r2.1 1).2.2.1=b))) then true else (!decide ((ix am r2.1 1).2.1=[]))))))))))))))))))))
def T1 (a:Str) (b:Str):Option Bool:=aiF false some a b
def akV:Ent:=evE (.cons .str (.cons .str .unit)) af (zero .bool) (fun x=>T1 x.1 x.2.1)
def amW:Par:=⟨ct.tab,(ay [(180,xM),(104,ajo)]),(fun _=>ao []),(fun _=>ao [])⟩
theorem amV:ar Tryz.prog 167 (akV):=evX Tryz.func167 (S:=amW) bf (ah ⟨ED,alB,trivial⟩) (tys:=[.bool]) (fun fuel x=>aiF true (sm af) x.1 x.2.1) (fun x=>by show _=Option.map af _; simp only [aiF,T1,ss])
abbrev eu (β:Type):=Str→Bool→Int→Option β
abbrev vz (β:Type):=Str→Int→Bool→Option β
def kM (m:Bool) {β:Type} (K:Bool→Option β) (k_l8:eu β):vz β:=fun s i comment=>(fz m aa (w64 (i+1)) fun y2_=>(k_l8 s comment y2_))
def iL (m:Bool) {β:Type} (K:Bool→Option β) (k_l8:eu β):vz β:=fun s i comment=>(ck (bd i s.length) (bif (decide ((ixs s i)=10)) then (kM m K k_l8 s i false) else (kM m K k_l8 s i comment)))
def kL (m:Bool) {β:Type} (K:Bool→Option β) (k_l8:eu β):eu β:=fun s comment i=>(bif (decide (i<(il s))) then (ck (bd i s.length) (bif (decide ((ixs s i)=35)) then (iL m K k_l8 s i true) else (iL m K k_l8 s i comment))) else (K (!comment)))
def sq (m:Bool) {β:Type} (K:Bool→Option β) (k_l8:eu β) (s:Str) (t1:Bool):Option β:=(cl m bm (oE s 0) fun r1=>(nq m [2,3,0] (!(decide (r1.2.1≥0))) (bif (bif (decide (r1.2.1≥0)) then true else (decide (r1.1<(il s)))) then (K false) else (bif t1 then (K true) else (k_l8 s false 0)))))
def mB:Nat→eu Bool:=lp (fun _ _ _=>none) fun k_l8=>kL false some k_l8
def fG (s:Str) (t1:Bool):Option Bool:=sq false some (mB FU) s t1
def yd:Ent:=evE (.cons .str (.cons .bool .unit)) af (zero .bool) (fun x=>fG x.1 x.2.1)
def mz:MS:=⟨0,[],[(0,.dat .str),(7,.dat .bool),(8,.dat aa)]⟩
def FS:Par:=⟨ct.tab,(ay [(171,IP)]),(fun _=>ao [(12,mz),(9,mz)]),(fun _=>ao [(8,mz)])⟩
def UV:KT:=bc ct.tab [.tmp 4] [.bool]
def FT (fuel lo:Nat) (p:List Nat):Sg→KT→Option AV:=xc (aD fi0 hs0 fuel 0) FS lo fuel (sub ((Tryz.f182.body).getD .skip) p)
def mA (fuel n:Nat):eu AV:=fun s comment i=>aB 0 mz (FT fuel 0 [1,1,1,1,1,0,1,0,0]) (ai 0 (aw 0 none (FT fuel 0 [1,1,1,1,1,1]) UV)) n ⟨mkE 39 [(0,.val .str s),(7,.val .bool comment),(8,.val aa i)],mkH 0 []⟩
theorem LO (fuel n8:Nat):mA fuel (n8+1)=kL true (sm af) (mA fuel n8):=by kernel_rfl
theorem LP : ∀ n,mA FU n=mp3 af (mB n):=bo (by kernel_rfl) fun n8 _ h=>(LO FU n8).trans (by rw [h]; funext _ _ _; simp only [kL,iL,kM,ss])
theorem FR:ar Tryz.prog 182 (yd):=evX Tryz.func182 (S:=FS) bf (ah ⟨Tz,trivial⟩) (tys:=[.bool]) (fun fuel x=>sq true (sm af) (mA fuel fuel) x.1 x.2.1) (fun x=>by show _=Option.map af _; rw [LP FU]; simp only [sq,fG,iL,kM,ss])
def aiD (m:Bool) {β:Type} (K:Bool→Option β) (kind:Int):Option β:=(nq m [2,1] (decide (kind≥10)) (nq m [2,1] (bif (decide (kind≥10)) then (decide (kind≤22)) else false) (K (bif (bif (decide (kind≥10)) then (decide (kind≤22)) else false) then (!decide (kind=17)) else false))))
def NO (kind:Int):Option Bool:=aiD false some kind
def aiE:Ent:=evE (.cons aa .unit) af (zero .bool) (fun x=>NO x.1)
theorem akU:ar Tryz.prog 215 (aiE):=evX Tryz.func215 (S:=uL) bf (ah trivial) (tys:=[.bool]) (fun fuel x=>aiD true (sm af) x.1) (fun x=>by show _=Option.map af _; simp only [aiD,NO,ss])
def aiC (m:Bool) {β:Type} (K:Bool→Option β) (kind:Int):Option β:=(nq m [2,1] (decide (kind≥5)) (K (bif (decide (kind≥5)) then (decide (kind≤9)) else false)))
def T0 (kind:Int):Option Bool:=aiC false some kind
def akT:Ent:=evE (.cons aa .unit) af (zero .bool) (fun x=>T0 x.1)
theorem amU:ar Tryz.prog 216 (akT):=evX Tryz.func216 (S:=uL) bf (ah trivial) (tys:=[.bool]) (fun fuel x=>aiC true (sm af) x.1) (fun x=>by show _=Option.map af _; simp only [aiC,T0,ss])
def aiB (m:Bool) {β:Type} (K:Bool→Option β) (kind:Int):Option β:=(cl m .bool (NO kind) fun r1=>(nq m [2,1] r1 (nq m [2,1] (bif r1 then (!decide (kind=19)) else false) (nq m [2,1] (bif (bif r1 then (!decide (kind=19)) else false) then (!decide (kind=20)) else false) (K (bif (bif (bif r1 then (!decide (kind=19)) else false) then (!decide (kind=20)) else false) then (!decide (kind=21)) else false))))))
def aap (kind:Int):Option Bool:=aiB false some kind
def akS:Ent:=evE (.cons aa .unit) af (zero .bool) (fun x=>aap x.1)
def amT:Par:=⟨ct.tab,(ay [(215,aiE)]),(fun _=>ao []),(fun _=>ao [])⟩
theorem amS:ar Tryz.prog 217 (akS):=evX Tryz.func217 (S:=amT) bf (ah ⟨akU,trivial⟩) (tys:=[.bool]) (fun fuel x=>aiB true (sm af) x.1) (fun x=>by show _=Option.map af _; simp only [aiB,aap,ss])
def aiA (m:Bool) {β:Type} (K:Int→Option β) (kids:Int) (must:Int) (t2:Int):Option β:=(bif (decide (kids=must)) then (K t2) else (K (-1)))
def xm (kids:Int) (must:Int) (t2:Int):Option Int:=aiA false some kids must t2
def akR:Ent:=evE (.cons aa (.cons aa (.cons aa .unit))) ax (zero aa) (fun x=>xm x.1 x.2.1 x.2.2.1)
theorem amR:ar Tryz.prog 214 (akR):=evX Tryz.func214 (S:=uL) bf (ah trivial) (tys:=[aa]) (fun fuel x=>aiA true (sm ax) x.1 x.2.1 x.2.2.1) (fun x=>by show _=Option.map ax _; simp only [aiA,xm,ss])
abbrev mV (β:Type):=Int→Int→Bool→Option β
def Rd (m:Bool) {β:Type} (K:Int→Option β):aQ β:=(K (-1))
def Rf (m:Bool) {β:Type} (K:Int→Option β) (k_j24:mV β):mV β:=fun kids kind t22=>(bif t22 then (cl m aa (xm kids 1 2) fun r2=>(K r2)) else (bif (decide (kind=5)) then (fz m .bool (decide (kind=5)) fun y2_=>(k_j24 kids kind y2_)) else (bif (decide (kind=6)) then (fz m .bool (decide (kind=6)) fun y2_=>(k_j24 kids kind y2_)) else (bif (decide (kind=7)) then (fz m .bool (decide (kind=7)) fun y2_=>(k_j24 kids kind y2_)) else (bif (decide (kind=9)) then (fz m .bool (decide (kind=9)) fun y2_=>(k_j24 kids kind y2_)) else (bif (decide (kind=10)) then (fz m .bool (decide (kind=10)) fun y2_=>(k_j24 kids kind y2_)) else (bif (decide (kind=11)) then (fz m .bool (decide (kind=11)) fun y2_=>(k_j24 kids kind y2_)) else (bif (decide (kind=12)) then (fz m .bool (decide (kind=12)) fun y2_=>(k_j24 kids kind y2_)) else (bif (decide (kind=13)) then (fz m .bool (decide (kind=13)) fun y2_=>(k_j24 kids kind y2_)) else (bif (decide (kind=14)) then (fz m .bool (decide (kind=14)) fun y2_=>(k_j24 kids kind y2_)) else (fz m .bool (decide (kind=15)) fun y2_=>(k_j24 kids kind y2_))))))))))))
def Re (m:Bool) {β:Type} (K:Int→Option β) (k_j39:aQ β):mV β:=fun kids kind t28=>(bif t28 then (cl m aa (xm kids 0 1) fun r3=>(K r3)) else (bif (decide (kind=16)) then (bif (decide (kids≥0)) then (K (w64 ((3:Int)+(ov 0 (w64 (kids-1)))))) else k_j39) else (bif (decide (kind=17)) then (cl m aa (xm kids 1 0) fun r4=>(K r4)) else (bif (decide (kind=18)) then (bif (decide (kids≥1)) then (K (w64 ((1:Int)+kids))) else k_j39) else (bif (decide (kind=19)) then (cl m aa (xm kids 3 3) fun r5=>(K r5)) else (bif (decide (kind=20)) then (cl m aa (xm kids 2 4) fun r6=>(K r6)) else (bif (decide (kind=21)) then (cl m aa (xm kids 2 1) fun r7=>(K r7)) else k_j39)))))))
def aiy (m:Bool) {β:Type} (K:Int→Option β) (k_j39:aQ β) (k_j13:mV β) (kind:Int) (kids:Int):Option β:=(bif (decide (kind=1)) then (bif (decide (kids≥0)) then (K 3) else k_j39) else (bif (decide (kind=2)) then (bif (decide (kids≥2)) then (K (w64 ((6:Int)+(ov 0 (w64 (kids-3)))))) else k_j39) else (bif (decide (kind=3)) then (cl m aa (xm kids 1 3) fun r1=>(K r1)) else (bif (decide (kind=4)) then (fz m .bool (decide (kind=4)) fun y2_=>(k_j13 kids kind y2_)) else (bif (decide (kind=8)) then (fz m .bool (decide (kind=8)) fun y2_=>(k_j13 kids kind y2_)) else (fz m .bool (decide (kind=22)) fun y2_=>(k_j13 kids kind y2_)))))))
def Bm:aQ Int:=Rd false some
def Ju:mV Int:=Re false some Bm
def Jw:mV Int:=Rf false some Ju
def TZ (kind:Int) (kids:Int):Option Int:=aiy false some Bm Jw kind kids
def aiz:Ent:=evE (.cons aa (.cons aa .unit)) ax (zero aa) (fun x=>TZ x.1 x.2.1)
def aed:MS:=⟨0,[],[(1,.dat aa),(5,.dat aa),(22,.dat .bool)]⟩
def aec:MS:=⟨0,[],[(1,.dat aa),(5,.dat aa),(28,.dat .bool)]⟩
def akQ:Par:=⟨ct.tab,(ay [(214,akR)]),(fun _=>ao [(39,bz),(13,aed),(24,aec)]),(fun _=>ao [])⟩
def aan:KT:=bc ct.tab [.tmp 4] [aa]
def aao (fuel lo:Nat) (p:List Nat):Sg→KT→Option AV:=xc (aD fi0 hs0 fuel 0) akQ lo fuel (sub ((Tryz.f194.body).getD .skip) p)
def Bl (fuel:Nat):aQ AV:=(aao fuel 0 [1,1]) ⟨mkE 71 [],mkH 0 []⟩ aan
def Jv (fuel:Nat):mV AV:=fun kids kind t22=>(aao fuel 0 [1,0,1,0,1,1,1,1,1,1,1]) ⟨mkE 71 [(1,.val aa kids),(5,.val aa kind),(22,.val .bool t22)],mkH 0 []⟩ (ai 0 (aw 0 (some bz) (aao fuel 0 [1,1]) aan))
def Jt (fuel:Nat):mV AV:=fun kids kind t28=>(aao fuel 0 [1,0,1,0,1,1,1,1,1,1,1,1,1]) ⟨mkE 71 [(1,.val aa kids),(5,.val aa kind),(28,.val .bool t28)],mkH 0 []⟩ (ai 0 (aw 0 (some bz) (aao fuel 0 [1,1]) aan))
theorem aee (fuel:Nat):Bl fuel=Rd true (sm ax):=by kernel_rfl
theorem aeh (fuel:Nat):Jv fuel=Rf true (sm ax) (Jt fuel):=by kernel_rfl
theorem aef (fuel:Nat):Jt fuel=Re true (sm ax) (Bl fuel):=by kernel_rfl
theorem TY:Bl FU=mp0 ax (Bm):=(aee FU).trans (by simp only [Rd,Bm,ss])
theorem aeg:Jt FU=mp3 ax (Ju):=(aef FU).trans (by rw [TY]; funext _ _ _; simp only [Re,Ju,ss])
theorem aei:Jv FU=mp3 ax (Jw):=(aeh FU).trans (by rw [aeg]; funext _ _ _; simp only [Rf,Jw,ss])
theorem akP:ar Tryz.prog 194 (aiz):=evX Tryz.func194 (S:=akQ) bf (ah ⟨amR,trivial⟩) (tys:=[aa]) (fun fuel x=>aiy true (sm ax) (Bl fuel) (Jv fuel) x.1 x.2.1) (fun x=>by show _=Option.map ax _; rw [TY,aei]; simp only [aiy,TZ,ss])
abbrev tU (β:Type):=Str→Int→Int→Bool→Option β
abbrev B3 (β:Type):=Str→Option β
def nh (m:Bool) {β:Type} (K:Bool→Option β):B3 β:=fun s=>(K (decide (s=[])))
def d4 (m:Bool) {β:Type} (K:Bool→Option β):tU β:=fun s r1 kind t14=>(bif t14 then (K (decide (r1=1))) else (bif (decide (kind=9)) then (nq m [2,0] (!(decide (r1=2))) (K (bif (decide (r1=2)) then true else (decide (r1=4))))) else (bif (decide (kind=16)) then (nq m [2,0] (!(decide (r1=1))) (K (bif (decide (r1=1)) then true else (decide (r1=3))))) else (bif (decide (kind=10)) then (K (decide (r1=5))) else (bif (decide (kind=11)) then (K (decide (r1=6))) else (bif (decide (kind=21)) then (cl m .bool (lq s) fun r2=>(K r2)) else (nh m K s)))))))
def jG (m:Bool) {β:Type} (K:Bool→Option β):tU β:=fun s r1 kind t9=>(bif t9 then (K (decide (r1=2))) else (bif (decide (kind=2)) then (fz m .bool (decide (kind=2)) fun y3_=>(d4 m K s r1 kind y3_)) else (bif (decide (kind=4)) then (fz m .bool (decide (kind=4)) fun y3_=>(d4 m K s r1 kind y3_)) else (bif (decide (kind=12)) then (fz m .bool (decide (kind=12)) fun y3_=>(d4 m K s r1 kind y3_)) else (fz m .bool (decide (kind=20)) fun y3_=>(d4 m K s r1 kind y3_))))))
def mC (m:Bool) {β:Type} (K:Bool→Option β) (kind:Int) (s:Str):Option β:=(cl m aa (fc s) fun r1=>(bif (decide (kind=1)) then (fz m .bool (decide (kind=1)) fun y3_=>(jG m K s r1 kind y3_)) else (fz m .bool (decide (kind=3)) fun y3_=>(jG m K s r1 kind y3_))))
def dM (kind:Int) (s:Str):Option Bool:=mC false some kind s
def qC:Ent:=evE (.cons aa (.cons .str .unit)) af (zero .bool) (fun x=>dM x.1 x.2.1)
def EW:MS:=⟨0,[],[(1,.dat .str),(5,.dat aa),(8,.dat aa),(9,.dat .bool)]⟩
def B5:MS:=⟨0,[],[(1,.dat .str),(5,.dat aa),(8,.dat aa),(14,.dat .bool)]⟩
def B4:MS:=⟨0,[],[(1,.dat .str)]⟩
def LS:Par:=⟨ct.tab,(ay [(180,xM),(208,IR)]),(fun _=>ao [(5,EW),(10,B5),(21,B4)]),(fun _=>ao [])⟩
theorem zx:ar Tryz.prog 195 (qC):=evX Tryz.func195 (S:=LS) bf (ah ⟨ED,TE,trivial⟩) (tys:=[.bool]) (fun fuel x=>mC true (sm af) x.1 x.2.1) (fun x=>by show _=Option.map af _; simp only [mC,dM,d4,nh,jG,ss])
abbrev ad9 (β:Type):=Int→Int→Tree→Bool→Option β
abbrev TX (β:Type):=Int→Option β
def aal (m:Bool) {β:Type} (K:Bool→Option β):TX β:=fun kind=>(cl m .bool (NO kind) fun r5=>(K r5))
def Js (m:Bool) {β:Type} (K:Bool→Option β):ad9 β:=fun i kind t t38=>(bif t38 then (cl m .bool (T0 kind) fun r3=>(K r3)) else (bif (decide (t.kind=16)) then (K (decide (kind=17))) else (bif (decide (t.kind=21)) then (cl m .bool (aap kind) fun r4=>(nq m [2,2] (!r4) (nq m [2] ((!r4)&&(decide (i=0))) (nm m 0 (!r4) ((ii ((!r4)&&(decide (i=0))))&&true) (nq m [0] (!r4) (K (bif r4 then true else (bif (decide (i=0)) then (decide (kind=21)) else false)))))))) else (aal m K kind))))
def aix (m:Bool) {β:Type} (K:Bool→Option β) (t:Tree) (i:Int) (kind:Int):Option β:=(bif (decide (t.kind=1)) then (nq m [2,0] (!(decide (kind=2))) (K (bif (decide (kind=2)) then true else (decide (kind=3))))) else (bif (decide (t.kind=2)) then (bif (decide (i=(w64 ((il t.kids)-1)))) then (cl m .bool (NO kind) fun r1=>(K r1)) else (bif (decide (i=(w64 ((il t.kids)-2)))) then (cl m .bool (T0 kind) fun r2=>(K r2)) else (K (decide (kind=4))))) else (bif (decide (t.kind=3)) then (fz m .bool (decide (t.kind=3)) fun y3_=>(Js m K i kind t y3_)) else (bif (decide (t.kind=4)) then (fz m .bool (decide (t.kind=4)) fun y3_=>(Js m K i kind t y3_)) else (fz m .bool (decide (t.kind=8)) fun y3_=>(Js m K i kind t y3_))))))
def aam (t:Tree) (i:Int) (kind:Int):Option Bool:=aix false some t i kind
def akO:Ent:=evE (.cons .tree (.cons aa (.cons aa .unit))) af (zero .bool) (fun x=>aam x.1 x.2.1 x.2.2.1)
def aeb:MS:=⟨0,[],[(1,.dat aa),(2,.dat aa),(12,.dat aa),(38,.dat .bool)]⟩
def aea:MS:=⟨0,[],[(2,.dat aa)]⟩
def amQ:Par:=⟨ct.tab,(ay [(215,aiE),(216,akT),(217,akS)]),(fun _=>ao [(15,aeb),(20,aea)]),(fun _=>ao [])⟩
theorem amP:ar Tryz.prog 196 (akO):=evX Tryz.func196 (S:=amQ) bf (ah ⟨akU,amU,amS,trivial⟩) (tys:=[.bool]) (fun fuel x=>aix true (sm af) x.1 x.2.1 x.2.2.1) (fun x=>by show _=Option.map af _; simp only [aix,aam,Js,aal,ss])
abbrev rk:=Tree→Option Bool
abbrev dF (β:Type):=Tree→Int→Option β
def aaj (m:Bool) {β:Type} (c_gd:rk) (K:Bool→Option β) (k_l4:dF β):dF β:=fun t i=>(bif (decide (i<(il t.kids))) then (ck (bd i t.kids.length) (cl m .bool (aam (te t) i ((ix .tree t.kids i).kind)) fun r2=>(nq m [2] (!(!r2)) (nm m 2 (!(!r2)) (bd i t.kids.length) (nq m [2] (!(!r2)) (nm m 1 (!(!r2)) (gO1 c_gd (ix .tree t.kids i)) (nq m [2,0] (!(!r2)) (bif (bif (!r2) then true else (!(fO1 (zero .bool) c_gd (ix .tree t.kids i)))) then (K false) else (fz m aa (w64 (i+1)) fun y1_=>(k_l4 t y1_)))))))))) else (K true))
def Po (x0:Int) (x1:Str):Bool:=(dM x0 x1).isSome
def Pp (x0:Int) (x1:Str):Bool:=(dM x0 x1).getD (zero .bool)
def aiu (m:Bool) {β:Type} (c_gd:rk) (K:Bool→Option β) (k_l4:dF β) (t:Tree):Option β:=(cl m aa (TZ (t.kind) (il t.kids)) fun r1=>(nq m [2,2] (!(decide (r1<0))) (nm m 2 (!(decide (r1<0))) (Po (t.kind) (t.text)) (nq m [2,0] (!(decide (r1<0))) (bif (bif (decide (r1<0)) then true else (!(Pp (t.kind) (t.text)))) then (K false) else (k_l4 t 0))))))
def aai (c_gd:rk):Nat→dF Bool:=lp (fun _ _=>none) fun k_l4=>aaj false c_gd some k_l4
def Rc (c_gd:rk) (t:Tree):Option Bool:=aiu false c_gd some (aai c_gd FU) t
def zZ:Nat→rk
 | 0=>(fun _=>none)
 | d+1=>(fun t=>Rc ((zZ d)) t)
def xl (d:Nat) (t:Tree):Option Bool:=zZ d t
theorem amO (d:Nat) (t:Tree):xl (d+1) t=Rc (xl d) t:=rfl
def aak (d:Nat):Ent:=evE (.cons .tree .unit) af (zero .bool) (fun x=>xl d x.1)
def Jq:MS:=⟨1,[(0,[.dat aa,.dat .str,.dat (.slice .str),.dat (.slice .tree)])],[(1,.keep),(3,.dat aa)]⟩
def akM (d:Nat):Par:=⟨ct.tab,(ay [(194,aiz),(195,qC),(196,akO),(164,aak d)]),(fun _=>ao []),(fun _=>ao [(4,Jq)])⟩
def Wm:KT:=bc ct.tab [.tmp 2] [.bool]
def akN (d:Nat) (fuel lo:Nat) (p:List Nat):Sg→KT→Option AV:=xc (aD fi0 hs0 fuel 0) (akM d) lo fuel (sub ((Tryz.f164.body).getD .skip) p)
def Jr (d:Nat) (fuel n:Nat):dF AV:=fun t i=>aB 0 Jq (akN d fuel 0 [1,1,0,1,0,0]) (ai 0 (aw 0 none (akN d fuel 0 [1,1,1]) Wm)) n ⟨mkE 45 [(1,.box 0 0),(3,.val aa i)],mkH 1 [(0,.box [.val aa t.kind,.val .str t.text,.val (.slice .str) t.leads,.val (.slice .tree) t.kids])]⟩
theorem aiv (d:Nat) (fuel n4:Nat):Jr d fuel (n4+1)=aaj true (xl d) (sm af) (Jr d fuel n4):=by kernel_rfl
theorem aiw (d:Nat) : ∀ n,Jr d FU n=mp2 af (aai (xl d) n):=bo (by kernel_rfl) fun n4 _ h=>(aiv d FU n4).trans (by rw [h]; funext _ _; simp only [aaj,ss])
theorem z6 : ∀ d,(ar Tryz.prog 164 (aak d))∧True
 | 0=>⟨rz fun _=>rfl,trivial⟩
 | d+1=>by
  have ih:=z6 d
  exact ⟨evX Tryz.func164 (S:=(akM d)) bf (ah ⟨akP,zx,amP,ih.1,trivial⟩) (tys:=[.bool]) (fun fuel x=>aiu true (xl d) (sm af) (Jr d fuel fuel) x.1) (fun x=>by show _=Option.map af _; rw [aiw d FU]; simp only [aiu,amO,Rc,ss]),trivial⟩
theorem akL (d:Nat):ar Tryz.prog 164 (aak d):=(z6 d).1
def aah (m:Bool) {β:Type} (c_ge:rk) (K:Bool→Option β) (k_l4:dF β) (k_l9:dF β):dF β:=fun t i=>(bif (decide (i<(il t.leads))) then (ck (bd i t.leads.length) (nq m [2,1] (decide (t.kind=1)) (cl m .bool (fG (ix .str t.leads i) (bif (decide (t.kind=1)) then (decide (i=2)) else false)) fun r2=>(bif (!r2) then (K false) else (fz m aa (w64 (i+1)) fun y1_=>(k_l4 t y1_)))))) else (k_l9 t 0))
def aaf (m:Bool) {β:Type} (c_ge:rk) (K:Bool→Option β) (k_l9:dF β):dF β:=fun t i=>(bif (decide (i<(il t.kids))) then (ck (bd i t.kids.length) (cl m .bool (c_ge (ix .tree t.kids i)) fun r3=>(bif (!r3) then (K false) else (fz m aa (w64 (i+1)) fun y1_=>(k_l9 t y1_))))) else (K true))
def aip (m:Bool) {β:Type} (c_ge:rk) (K:Bool→Option β) (k_l4:dF β) (t:Tree):Option β:=(cl m aa (TZ (t.kind) (il t.kids)) fun r1=>(bif (!decide ((il t.leads)=r1)) then (K false) else (k_l4 t 0)))
def aae (c_ge:rk):Nat→dF Bool:=lp (fun _ _=>none) fun k_l9=>aaf false c_ge some k_l9
def aag (c_ge:rk):Nat→dF Bool:=lp (fun _ _=>none) fun k_l4=>aah false c_ge some k_l4 (aae c_ge FU)
def Rb (c_ge:rk) (t:Tree):Option Bool:=aip false c_ge some (aag c_ge FU) t
def DB:Nat→rk
 | 0=>(fun _=>none)
 | d+1=>(fun t=>Rb ((DB d)) t)
def uk (d:Nat) (t:Tree):Option Bool:=DB d t
theorem amN (d:Nat) (t:Tree):uk (d+1) t=Rb (uk d) t:=rfl
def ad7 (d:Nat):Ent:=evE (.cons .tree .unit) af (zero .bool) (fun x=>uk d x.1)
def aad:MS:=⟨1,[(0,[.dat aa,.dat .str,.dat (.slice .str),.dat (.slice .tree)])],[(1,.keep),(4,.dat aa)]⟩
def akK (d:Nat):Par:=⟨ct.tab,(ay [(194,aiz),(182,yd),(165,ad7 d)]),(fun _=>ao []),(fun _=>ao [(4,Jq),(9,aad)])⟩
def ad8 (d:Nat) (fuel lo:Nat) (p:List Nat):Sg→KT→Option AV:=xc (aD fi0 hs0 fuel 0) (akK d) lo fuel (sub ((Tryz.f165.body).getD .skip) p)
def Jp (d:Nat) (fuel n:Nat):dF AV:=fun t i=>aB 0 Jq (ad8 d fuel 0 [1,1,0,1,0,0]) (ai 0 (aw 0 none (ad8 d fuel 0 [1,1,1]) Wm)) n ⟨mkE 50 [(1,.box 0 0),(3,.val aa i)],mkH 1 [(0,.box [.val aa t.kind,.val .str t.text,.val (.slice .str) t.leads,.val (.slice .tree) t.kids])]⟩
def Jo (d:Nat) (fuel n:Nat):dF AV:=fun t i=>aB 0 aad (ad8 d fuel 0 [1,1,1,0,1,0,0]) (ai 2 (aw 0 none (ad8 d fuel 0 [1,1,1,1]) Wm)) n ⟨mkE 50 [(1,.box 0 0),(4,.val aa i)],mkH 1 [(0,.box [.val aa t.kind,.val .str t.text,.val (.slice .str) t.leads,.val (.slice .tree) t.kids])]⟩
theorem ais (d:Nat) (fuel n4:Nat):Jp d fuel (n4+1)=aah true (uk d) (sm af) (Jp d fuel n4) (Jo d fuel fuel):=by kernel_rfl
theorem aiq (d:Nat) (fuel n9:Nat):Jo d fuel (n9+1)=aaf true (uk d) (sm af) (Jo d fuel n9):=by kernel_rfl
theorem air (d:Nat) : ∀ n,Jo d FU n=mp2 af (aae (uk d) n):=bo (by kernel_rfl) fun n9 _ h=>(aiq d FU n9).trans (by rw [h]; funext _ _; simp only [aaf,ss])
theorem ait (d:Nat) : ∀ n,Jp d FU n=mp2 af (aag (uk d) n):=bo (by kernel_rfl) fun n4 _ h=>(ais d FU n4).trans (by rw [h,air d FU]; funext _ _; simp only [aah,ss])
theorem DD : ∀ d,(ar Tryz.prog 165 (ad7 d))∧True
 | 0=>⟨rz fun _=>rfl,trivial⟩
 | d+1=>by
  have ih:=DD d
  exact ⟨evX Tryz.func165 (S:=(akK d)) bf (ah ⟨akP,FR,ih.1,trivial⟩) (tys:=[.bool]) (fun fuel x=>aip true (uk d) (sm af) (Jp d fuel fuel) x.1) (fun x=>by show _=Option.map af _; rw [ait d FU]; simp only [aip,amN,Rb,ss]),trivial⟩
theorem amM (d:Nat):ar Tryz.prog 165 (ad7 d):=(DD d).1
def geG (d:Nat) (x0:Tree):Bool:=(uk d x0).isSome
def geF (d:Nat) (x0:Tree):Bool:=(uk d x0).getD (zero .bool)
def ail (m:Bool) {β:Type} (K:Bool→Option β) (t:Tree):Option β:=(cl m .bool (xl FD (te t)) fun r1=>(nm m 1 r1 (geG FD (te t)) (nq m [1] r1 (K (bif r1 then (geF FD (te t)) else false)))))
def TW (t:Tree):Option Bool:=ail false some t
def aim:Ent:=evE (.cons .tree .unit) af (zero .bool) (fun x=>TW x.1)
def amL:Par:=⟨ct.tab,(ay [(164,aak FD),(165,ad7 FD)]),(fun _=>ao []),(fun _=>ao [])⟩
theorem akJ:ar Tryz.prog 121 (aim):=evX Tryz.func121 (S:=amL) bf (ah ⟨(akL FD),(amM FD),trivial⟩) (tys:=[.bool]) (fun fuel x=>ail true (sm af) x.1) (fun x=>by show _=Option.map af _; simp only [ail,TW,ss])
def aaa (m:Bool) {β:Type} (c_gg:rk) (K:Bool→Option β) (k_l5:dF β):dF β:=fun t i=>(bif (decide (i<(il t.kids))) then (ck (bd i t.kids.length) (cl m .bool (c_gg (ix .tree t.kids i)) fun r1=>(bif (!r1) then (K false) else (fz m aa (w64 (i+1)) fun y1_=>(k_l5 t y1_))))) else (K true))
def aii (m:Bool) {β:Type} (c_gg:rk) (K:Bool→Option β) (k_l5:dF β) (t:Tree):Option β:=(nq m [2,1] (decide (t.kind=1)) (nq m [2,2,2] (!(bif (decide (t.kind=1)) then (decide ((il t.kids)>40)) else false)) (nq m [2] ((!(bif (decide (t.kind=1)) then (decide ((il t.kids)>40)) else false))&&(decide (t.kind=2))) (nm m 0 (!(bif (decide (t.kind=1)) then (decide ((il t.kids)>40)) else false)) ((ii ((!(bif (decide (t.kind=1)) then (decide ((il t.kids)>40)) else false))&&(decide (t.kind=2))))&&true) (nq m [0] (!(bif (decide (t.kind=1)) then (decide ((il t.kids)>40)) else false)) (nq m [2,2,2] (!(bif (bif (decide (t.kind=1)) then (decide ((il t.kids)>40)) else false) then true else (bif (decide (t.kind=2)) then (decide ((il t.kids)>10)) else false))) (nq m [2] ((!(bif (bif (decide (t.kind=1)) then (decide ((il t.kids)>40)) else false) then true else (bif (decide (t.kind=2)) then (decide ((il t.kids)>10)) else false)))&&(decide (t.kind=16))) (nm m 0 (!(bif (bif (decide (t.kind=1)) then (decide ((il t.kids)>40)) else false) then true else (bif (decide (t.kind=2)) then (decide ((il t.kids)>10)) else false))) ((ii ((!(bif (bif (decide (t.kind=1)) then (decide ((il t.kids)>40)) else false) then true else (bif (decide (t.kind=2)) then (decide ((il t.kids)>10)) else false)))&&(decide (t.kind=16))))&&true) (nq m [0] (!(bif (bif (decide (t.kind=1)) then (decide ((il t.kids)>40)) else false) then true else (bif (decide (t.kind=2)) then (decide ((il t.kids)>10)) else false))) (nq m [2,2,2] (!(bif (bif (bif (decide (t.kind=1)) then (decide ((il t.kids)>40)) else false) then true else (bif (decide (t.kind=2)) then (decide ((il t.kids)>10)) else false)) then true else (bif (decide (t.kind=16)) then (decide ((il t.kids)>8)) else false))) (nq m [2] ((!(bif (bif (bif (decide (t.kind=1)) then (decide ((il t.kids)>40)) else false) then true else (bif (decide (t.kind=2)) then (decide ((il t.kids)>10)) else false)) then true else (bif (decide (t.kind=16)) then (decide ((il t.kids)>8)) else false)))&&(decide (t.kind=18))) (nm m 0 (!(bif (bif (bif (decide (t.kind=1)) then (decide ((il t.kids)>40)) else false) then true else (bif (decide (t.kind=2)) then (decide ((il t.kids)>10)) else false)) then true else (bif (decide (t.kind=16)) then (decide ((il t.kids)>8)) else false))) ((ii ((!(bif (bif (bif (decide (t.kind=1)) then (decide ((il t.kids)>40)) else false) then true else (bif (decide (t.kind=2)) then (decide ((il t.kids)>10)) else false)) then true else (bif (decide (t.kind=16)) then (decide ((il t.kids)>8)) else false)))&&(decide (t.kind=18))))&&true) (nq m [0] (!(bif (bif (bif (decide (t.kind=1)) then (decide ((il t.kids)>40)) else false) then true else (bif (decide (t.kind=2)) then (decide ((il t.kids)>10)) else false)) then true else (bif (decide (t.kind=16)) then (decide ((il t.kids)>8)) else false))) (bif (bif (bif (bif (bif (decide (t.kind=1)) then (decide ((il t.kids)>40)) else false) then true else (bif (decide (t.kind=2)) then (decide ((il t.kids)>10)) else false)) then true else (bif (decide (t.kind=16)) then (decide ((il t.kids)>8)) else false)) then true else (bif (decide (t.kind=18)) then (decide ((il t.kids)>16)) else false)) then (K false) else (k_l5 t 0)))))))))))))))
def Z9 (c_gg:rk):Nat→dF Bool:=lp (fun _ _=>none) fun k_l5=>aaa false c_gg some k_l5
def Ra (c_gg:rk) (t:Tree):Option Bool:=aii false c_gg some (Z9 c_gg FU) t
def Aa:Nat→rk
 | 0=>(fun _=>none)
 | d+1=>(fun t=>Ra ((Aa d)) t)
def Ad (d:Nat) (t:Tree):Option Bool:=Aa d t
theorem amK (d:Nat) (t:Tree):Ad (d+1) t=Ra (Ad d) t:=rfl
def ad6 (d:Nat):Ent:=evE (.cons .tree .unit) af (zero .bool) (fun x=>Ad d x.1)
def akH (d:Nat):Par:=⟨ct.tab,(ay [(122,ad6 d)]),(fun _=>ao []),(fun _=>ao [(5,yY)])⟩
def akI (d:Nat) (fuel lo:Nat) (p:List Nat):Sg→KT→Option AV:=xc (aD fi0 hs0 fuel 0) (akH d) lo fuel (sub ((Tryz.f122.body).getD .skip) p)
def Jm (d:Nat) (fuel n:Nat):dF AV:=fun t i=>aB 0 yY (akI d fuel 0 [1,1,1,0,1,0,0]) (ai 0 (aw 0 none (akI d fuel 0 [1,1,1,1]) Wm)) n ⟨mkE 54 [(1,.box 0 0),(3,.val aa (il t.kids)),(4,.val aa i)],mkH 1 [(0,.box [.val aa t.kind,.val .str t.text,.val (.slice .str) t.leads,.val (.slice .tree) t.kids])]⟩
theorem aij (d:Nat) (fuel n5:Nat):Jm d fuel (n5+1)=aaa true (Ad d) (sm af) (Jm d fuel n5):=by kernel_rfl
theorem aik (d:Nat) : ∀ n,Jm d FU n=mp2 af (Z9 (Ad d) n):=bo (by kernel_rfl) fun n5 _ h=>(aij d FU n5).trans (by rw [h]; funext _ _; simp only [aaa,ss])
theorem Ac : ∀ d,(ar Tryz.prog 122 (ad6 d))∧True
 | 0=>⟨rz fun _=>rfl,trivial⟩
 | d+1=>by
  have ih:=Ac d
  exact ⟨evX Tryz.func122 (S:=(akH d)) bf (ah ⟨ih.1,trivial⟩) (tys:=[.bool]) (fun fuel x=>aii true (Ad d) (sm af) (Jm d fuel fuel) x.1) (fun x=>by show _=Option.map af _; rw [aik d FU]; simp only [aii,amK,Ra,ss]),trivial⟩
theorem amJ (d:Nat):ar Tryz.prog 122 (ad6 d):=(Ac d).1
def aig (m:Bool) {β:Type} (K:Str→Option β) (t:Tree) (t1:Int):Option β:=(bif (decide (t1<(il t.leads))) then (ck (bd t1 t.leads.length) (K (ix .str t.leads t1))) else (K []))
def bZ (t:Tree) (t1:Int):Option Str:=aig false some t t1
def rj (r:Str):AV := .val .str r
def aih:Ent:=evE (.cons .tree (.cons aa .unit)) rj (zero .str) (fun x=>bZ x.1 x.2.1)
theorem akG:ar Tryz.prog 218 (aih):=evX Tryz.func218 (S:=uL) bf (ah trivial) (tys:=[.str]) (fun fuel x=>aig true (sm rj) x.1 x.2.1) (fun x=>by show _=Option.map rj _; simp only [aig,bZ,ss])
abbrev DH:=(List az.den)→Tree→Int→Int→Int→Option (List az.den)
abbrev DF:=(List az.den)→Tree→Option (List az.den)
abbrev yK:=(List az.den)
abbrev uS (β:Type):=Int→Int→Int→(List az.den)→Int→Int→Str→(List Str)→(List Tree)→Option β
abbrev Z5 (β:Type):=Int→Int→Int→Int→(List az.den)→Int→Str→(List Str)→(List Tree)→Option β
def Z8 (m:Bool) {β:Type} (c_gi:DH) (c_gj:DF) (K:yK→Option β) (k_l2:uS β):Z5 β:=fun t2 to comma i l b1_0 b1_1 b1_2 b1_3=>(fz m aa (w64 (i+1)) fun y4_=>(k_l2 t2 to comma l y4_ b1_0 b1_1 b1_2 b1_3))
def TV (m:Bool) {β:Type} (c_gi:DH) (c_gj:DF) (K:yK→Option β) (k_l2:uS β):Z5 β:=fun t2 to comma i l b1_0 b1_1 b1_2 b1_3=>(ck (bd i b1_3.length) (cl m (.slice az) (c_gj l (ix .tree b1_3 i)) fun r2=>(Z8 m c_gi c_gj K k_l2 t2 to comma i r2 b1_0 b1_1 b1_2 b1_3)))
def Z7 (m:Bool) {β:Type} (c_gi:DH) (c_gj:DF) (K:yK→Option β) (k_l2:uS β):uS β:=fun t2 to comma l i b1_0 b1_1 b1_2 b1_3=>(bif (decide (i<to)) then (bif (decide (i>t2)) then (cl m .str (bZ (Tree.mk b1_0 b1_1 b1_2 b1_3) (w64 ((w64 ((w64 (comma+i))-t2))-1))) fun r1=>(ck (lm (List.length l+List.length ([(r1,[44],())]:List az.den))) (fz m (.slice az) (l++[(r1,[44],())]) fun y4_=>(TV m c_gi c_gj K k_l2 t2 to comma i y4_ b1_0 b1_1 b1_2 b1_3)))) else (TV m c_gi c_gj K k_l2 t2 to comma i l b1_0 b1_1 b1_2 b1_3)) else (K l))
def aid (m:Bool) {β:Type} (c_gi:DH) (c_gj:DF) (K:yK→Option β) (k_l2:uS β) (l:(List az.den)) (t:Tree) (t2:Int) (to:Int) (comma:Int):Option β:=(fz m aa (t.kind) fun y5_=>(fz m .str (t.text) fun y6_=>(fz m (.slice .str) (t.leads) fun y7_=>(fz m (.slice .tree) (t.kids) fun y8_=>(k_l2 t2 to comma l t2 y5_ y6_ y7_ y8_)))))
def Z6 (c_gi:DH) (c_gj:DF):Nat→uS yK:=lp (fun _ _ _ _ _ _ _ _ _=>none) fun k_l2=>Z7 false c_gi c_gj some k_l2
def Q9 (c_gi:DH) (c_gj:DF) (l:(List az.den)) (t:Tree) (t2:Int) (to:Int) (comma:Int):Option yK:=aid false c_gi c_gj some (Z6 c_gi c_gj FU) l t t2 to comma
def DG (r:yK):AV := .val (.slice az) r
abbrev DE (β:Type):=Tree→(List az.den)→Int→Int→Str→(List Str)→(List Tree)→Option β
def Z4 (m:Bool) {β:Type} (c_gi:DH) (c_gj:DF) (K:yK→Option β) (k_l6:DE β):DE β:=fun t l i b1_0 b1_1 b1_2 b1_3=>(bif (decide (i<(il t.kids))) then (ck (bd i b1_3.length) (cl m (.slice az) (c_gj l (ix .tree b1_3 i)) fun r55=>(fz m aa (w64 (i+1)) fun y2_=>(k_l6 t r55 y2_ b1_0 b1_1 b1_2 b1_3)))) else (cl m .str (bZ (Tree.mk b1_0 b1_1 b1_2 b1_3) 2) fun r56=>(ck (lm (List.length l+List.length ([(r56,[],())]:List az.den))) (K (l++[(r56,[],())])))))
def ah9 (m:Bool) {β:Type} (c_gi:DH) (c_gj:DF) (K:yK→Option β) (k_l6:DE β) (l:(List az.den)) (t:Tree):Option β:=(bif (decide (t.kind=1)) then (cl m .str (bZ (te t) 0) fun r1=>(cl m .str (bZ (te t) 1) fun r2=>(ck (lm (List.length l+List.length ([(r1,[109,111,100,117,108,101],()),(r2,t.text,())]:List az.den))) (fz m (.slice az) (l++[(r1,[109,111,100,117,108,101],()),(r2,t.text,())]) fun y1_=>(fz m aa (t.kind) fun y3_=>(fz m .str (t.text) fun y4_=>(fz m (.slice .str) (t.leads) fun y5_=>(fz m (.slice .tree) (t.kids) fun y6_=>(k_l6 t y1_ 0 y3_ y4_ y5_ y6_))))))))) else (bif (decide (t.kind=2)) then (cl m .str (bZ (te t) 0) fun r3=>(cl m .str (bZ (te t) 1) fun r4=>(cl m .str (bZ (te t) 2) fun r5=>(ck (lm (List.length l+List.length ([(r3,[100,101,102],()),(r4,t.text,()),(r5,[40],())]:List az.den))) (cl m (.slice az) (c_gi (l++[(r3,[100,101,102],()),(r4,t.text,()),(r5,[40],())]) (te t) 0 (w64 ((il t.kids)-2)) 6) fun r6=>(cl m .str (bZ (te t) 3) fun r7=>(cl m .str (bZ (te t) 4) fun r8=>(ck (lm (List.length r6+List.length ([(r7,[41],()),(r8,[58],())]:List az.den))) (ck (bd (w64 ((il t.kids)-2)) t.kids.length) (cl m (.slice az) (c_gj (r6++[(r7,[41],()),(r8,[58],())]) (ix .tree t.kids (w64 ((il t.kids)-2)))) fun r9=>(cl m .str (bZ (te t) 5) fun r10=>(ck (lm (List.length r9+List.length ([(r10,[61],())]:List az.den))) (ck (bd (w64 ((il t.kids)-1)) t.kids.length) (cl m (.slice az) (c_gj (r9++[(r10,[61],())]) (ix .tree t.kids (w64 ((il t.kids)-1)))) fun r11=>(K r11))))))))))))))) else (bif (decide (t.kind=3)) then (cl m .str (bZ (te t) 0) fun r12=>(cl m .str (bZ (te t) 1) fun r13=>(cl m .str (bZ (te t) 2) fun r14=>(ck (lm (List.length l+List.length ([(r12,[116,121,112,101],()),(r13,t.text,()),(r14,[61],())]:List az.den))) (ck (bd 0 t.kids.length) (cl m (.slice az) (c_gj (l++[(r12,[116,121,112,101],()),(r13,t.text,()),(r14,[61],())]) (ix .tree t.kids 0)) fun r15=>(K r15))))))) else (bif (decide (t.kind=4)) then (cl m .str (bZ (te t) 0) fun r16=>(cl m .str (bZ (te t) 1) fun r17=>(ck (lm (List.length l+List.length ([(r16,t.text,()),(r17,[58],())]:List az.den))) (ck (bd 0 t.kids.length) (cl m (.slice az) (c_gj (l++[(r16,t.text,()),(r17,[58],())]) (ix .tree t.kids 0)) fun r18=>(K r18)))))) else (bif (decide (t.kind=5)) then (cl m .str (bZ (te t) 0) fun r19=>(ck (lm (List.length l+List.length ([(r19,[73,110,116],())]:List az.den))) (K (l++[(r19,[73,110,116],())])))) else (bif (decide (t.kind=6)) then (cl m .str (bZ (te t) 0) fun r20=>(ck (lm (List.length l+List.length ([(r20,[84,101,120,116],())]:List az.den))) (K (l++[(r20,[84,101,120,116],())])))) else (bif (decide (t.kind=7)) then (cl m .str (bZ (te t) 0) fun r21=>(ck (lm (List.length l+List.length ([(r21,[66,111,111,108],())]:List az.den))) (K (l++[(r21,[66,111,111,108],())])))) else (bif (decide (t.kind=13)) then (cl m .str (bZ (te t) 0) fun r22=>(ck (lm (List.length l+List.length ([(r22,[116,114,117,101],())]:List az.den))) (K (l++[(r22,[116,114,117,101],())])))) else (bif (decide (t.kind=14)) then (cl m .str (bZ (te t) 0) fun r23=>(ck (lm (List.length l+List.length ([(r23,[102,97,108,115,101],())]:List az.den))) (K (l++[(r23,[102,97,108,115,101],())])))) else (bif (decide (t.kind=15)) then (cl m .str (bZ (te t) 0) fun r24=>(ck (lm (List.length l+List.length ([(r24,[63],())]:List az.den))) (K (l++[(r24,[63],())])))) else (bif (decide (t.kind=8)) then (cl m .str (bZ (te t) 0) fun r25=>(ck (lm (List.length l+List.length ([(r25,[91],())]:List az.den))) (ck (bd 0 t.kids.length) (cl m (.slice az) (c_gj (l++[(r25,[91],())]) (ix .tree t.kids 0)) fun r26=>(cl m .str (bZ (te t) 1) fun r27=>(ck (lm (List.length r26+List.length ([(r27,[93],())]:List az.den))) (K (r26++[(r27,[93],())])))))))) else (bif (decide (t.kind=16)) then (cl m .str (bZ (te t) 0) fun r28=>(cl m .str (bZ (te t) 1) fun r29=>(ck (lm (List.length l+List.length ([(r28,t.text,()),(r29,[40],())]:List az.den))) (cl m (.slice az) (c_gi (l++[(r28,t.text,()),(r29,[40],())]) (te t) 0 (il t.kids) 3) fun r30=>(cl m .str (bZ (te t) 2) fun r31=>(ck (lm (List.length r30+List.length ([(r31,[41],())]:List az.den))) (K (r30++[(r31,[41],())])))))))) else (bif (decide (t.kind=17)) then (ck (bd 0 t.kids.length) (cl m (.slice az) (c_gj l (ix .tree t.kids 0)) fun r32=>(K r32))) else (bif (decide (t.kind=18)) then (cl m .str (bZ (te t) 0) fun r33=>(ck (lm (List.length l+List.length ([(r33,[91],())]:List az.den))) (cl m (.slice az) (c_gi (l++[(r33,[91],())]) (te t) 0 (il t.kids) 2) fun r34=>(cl m .str (bZ (te t) 1) fun r35=>(ck (lm (List.length r34+List.length ([(r35,[93],())]:List az.den))) (K (r34++[(r35,[93],())]))))))) else (bif (decide (t.kind=19)) then (cl m .str (bZ (te t) 0) fun r36=>(ck (lm (List.length l+List.length ([(r36,[105,102],())]:List az.den))) (ck (bd 0 t.kids.length) (cl m (.slice az) (c_gj (l++[(r36,[105,102],())]) (ix .tree t.kids 0)) fun r37=>(cl m .str (bZ (te t) 1) fun r38=>(ck (lm (List.length r37+List.length ([(r38,[116,104,101,110],())]:List az.den))) (ck (bd 1 t.kids.length) (cl m (.slice az) (c_gj (r37++[(r38,[116,104,101,110],())]) (ix .tree t.kids 1)) fun r39=>(cl m .str (bZ (te t) 2) fun r40=>(ck (lm (List.length r39+List.length ([(r40,[101,108,115,101],())]:List az.den))) (ck (bd 2 t.kids.length) (cl m (.slice az) (c_gj (r39++[(r40,[101,108,115,101],())]) (ix .tree t.kids 2)) fun r41=>(K r41))))))))))))) else (bif (decide (t.kind=20)) then (cl m .str (bZ (te t) 0) fun r42=>(cl m .str (bZ (te t) 1) fun r43=>(cl m .str (bZ (te t) 2) fun r44=>(ck (lm (List.length l+List.length ([(r42,[108,101,116],()),(r43,t.text,()),(r44,[61],())]:List az.den))) (ck (bd 0 t.kids.length) (cl m (.slice az) (c_gj (l++[(r42,[108,101,116],()),(r43,t.text,()),(r44,[61],())]) (ix .tree t.kids 0)) fun r45=>(cl m .str (bZ (te t) 3) fun r46=>(ck (lm (List.length r45+List.length ([(r46,[105,110],())]:List az.den))) (ck (bd 1 t.kids.length) (cl m (.slice az) (c_gj (r45++[(r46,[105,110],())]) (ix .tree t.kids 1)) fun r47=>(K r47))))))))))) else (bif (decide (t.kind=21)) then (ck (bd 0 t.kids.length) (cl m (.slice az) (c_gj l (ix .tree t.kids 0)) fun r48=>(cl m .str (bZ (te t) 0) fun r49=>(ck (lm (List.length r48+List.length ([(r49,t.text,())]:List az.den))) (ck (bd 1 t.kids.length) (cl m (.slice az) (c_gj (r48++[(r49,t.text,())]) (ix .tree t.kids 1)) fun r50=>(K r50))))))) else (bif (decide (t.kind=22)) then (cl m .str (bZ (te t) 0) fun r51=>(ck (lm (List.length l+List.length ([(r51,[40],())]:List az.den))) (ck (bd 0 t.kids.length) (cl m (.slice az) (c_gj (l++[(r51,[40],())]) (ix .tree t.kids 0)) fun r52=>(cl m .str (bZ (te t) 1) fun r53=>(ck (lm (List.length r52+List.length ([(r53,[41],())]:List az.den))) (K (r52++[(r53,[41],())])))))))) else (cl m .str (bZ (te t) 0) fun r54=>(ck (lm (List.length l+List.length ([(r54,t.text,())]:List az.den))) (K (l++[(r54,t.text,())]))))))))))))))))))))))
def Z3 (c_gi:DH) (c_gj:DF):Nat→DE yK:=lp (fun _ _ _ _ _ _ _=>none) fun k_l6=>Z4 false c_gi c_gj some k_l6
def Q8 (c_gi:DH) (c_gj:DF) (l:(List az.den)) (t:Tree):Option yK:=ah9 false c_gi c_gj some (Z3 c_gi c_gj FU) l t
def f8:Nat→DH×DF
 | 0=>((fun _ _ _ _ _=>none),(fun _ _=>none))
 | d+1=>((fun l t t2 to comma=>Q9 ((f8 d).1) ((f8 d).2) l t t2 to comma),(fun l t=>Q8 ((f8 d).1) ((f8 d).2) l t))
def uj (d:Nat) (l:(List az.den)) (t:Tree) (t2:Int) (to:Int) (comma:Int):Option (List az.den):=(f8 d).1 l t t2 to comma
def ri (d:Nat) (l:(List az.den)) (t:Tree):Option (List az.den):=(f8 d).2 l t
theorem amH (d:Nat) (l:(List az.den)) (t:Tree) (t2:Int) (to:Int) (comma:Int):uj (d+1) l t t2 to comma=Q9 (uj d) (ri d) l t t2 to comma:=rfl
theorem amF (d:Nat) (l:(List az.den)) (t:Tree):ri (d+1) l t=Q8 (uj d) (ri d) l t:=rfl
def akD (d:Nat):Rw:=rwE az (.cons .tree (.cons aa (.cons aa (.cons aa .unit)))) 215 (fun l x=>uj d l x.1 x.2.1 x.2.2.1 x.2.2.2.1)
def Z1 (d:Nat):Rw:=rwE az (.cons .tree .unit) 215 (fun l x=>ri d l x.1)
def Jj:MS:=⟨2,[(1,[.dat aa,.dat .str,.dat (.slice .str),.dat (.slice .tree)])],[(0,.own az 215),(2,.dat aa),(3,.dat aa),(4,.dat aa),(6,.keep),(11,.dat aa)]⟩
def akE (d:Nat):Par:=⟨ct.tab,(dn [(218,aih)] [] [] [(197,Z1 d)] []),(fun _=>ao [(6,Jj),(3,Jj)]),(fun _=>ao [(2,Jj)])⟩
def amI:KT:=yj ct.tab [.tmp 10] az 215
def akF (d:Nat) (fuel lo:Nat) (p:List Nat):Sg→KT→Option AV:=xc (aD fi0 hs0 fuel 0) (akE d) lo fuel (sub ((Tryz.f219.body).getD .skip) p)
def Jl (d:Nat) (fuel n:Nat):uS AV:=fun t2 to comma l i b1_0 b1_1 b1_2 b1_3=>aB 0 Jj (akF d fuel 0 [1,0,1,0,0]) (ai 0 (aw 0 none (akF d fuel 0 [1,1]) amI)) n ⟨mkE 41 [(0,.own 2 0 az l),(2,.val aa t2),(3,.val aa to),(4,.val aa comma),(6,.box 1 0),(11,.val aa i)],mkH 3 [(0,.row az 215 1),(1,.box [.val aa b1_0,.val .str b1_1,.val (.slice .str) b1_2,.val (.slice .tree) b1_3]),(2,.row az 215 0)]⟩
theorem aie (d:Nat) (fuel n2:Nat):Jl d fuel (n2+1)=Z7 true (uj d) (ri d) (sm DG) (Jl d fuel n2):=by kernel_rfl
theorem aif (d:Nat) : ∀ n,Jl d FU n=mp9 DG (Z6 (uj d) (ri d) n):=bo (by kernel_rfl) fun n2 _ h=>(aie d FU n2).trans (by rw [h]; funext _ _ _ _ _ _ _ _ _; simp only [Z7,Z8,TV,ss])
def Z2:MS:=⟨2,[(1,[.dat aa,.dat .str,.dat (.slice .str),.dat (.slice .tree)])],[(0,.own az 215),(3,.keep),(5,.dat aa),(6,.dat aa)]⟩
def akC (d:Nat):Par:=⟨ct.tab,(dn [(218,aih)] [] [] [(219,akD d),(197,Z1 d)] []),(fun _=>ao []),(fun _=>ao [(6,Z2)])⟩
def amG:KT:=yj ct.tab [.tmp 4] az 215
def aic (d:Nat) (fuel lo:Nat) (p:List Nat):Sg→KT→Option AV:=xc (aD fi0 hs0 fuel 0) (akC d) lo fuel (sub ((Tryz.f197.body).getD .skip) p)
def Ji (d:Nat) (fuel n:Nat):DE AV:=fun t l i b1_0 b1_1 b1_2 b1_3=>aB 0 Z2 (aic d fuel 0 [1,1,0,1,0,1,0,1,0,1,0,0]) (ai 1 (aw 0 none (aic d fuel 0 [1,1,0,1,0,1,0,1,1]) (ai 0 (aw 0 none (aic d fuel 0 [1,1,1]) amG)))) n ⟨mkE 365 [(0,.own 2 0 az l),(3,.box 1 0),(5,.val aa (il t.kids)),(6,.val aa i)],mkH 3 [(0,.row az 215 2),(1,.box [.val aa b1_0,.val .str b1_1,.val (.slice .str) b1_2,.val (.slice .tree) b1_3]),(2,.row az 215 0)]⟩
theorem aia (d:Nat) (fuel n6:Nat):Ji d fuel (n6+1)=Z4 true (uj d) (ri d) (sm DG) (Ji d fuel n6):=by kernel_rfl
theorem aib (d:Nat) : ∀ n,Ji d FU n=mp7 DG (Z3 (uj d) (ri d) n):=bo (by kernel_rfl) fun n6 _ h=>(aia d FU n6).trans (by rw [h]; funext _ _ _ _ _ _ _; simp only [Z4,ss])
theorem z7 : ∀ d,(zj Tryz.prog 219 (akD d))∧(zj Tryz.prog 197 (Z1 d))∧True
 | 0=>⟨Co fun _ _=>rfl,Co fun _ _=>rfl,trivial⟩
 | d+1=>by
  have ih:=z7 d
  exact ⟨rwX Tryz.func219 (S:=(akE d)) bf (bq ⟨akG,trivial⟩ trivial trivial ⟨ih.2.1,trivial⟩ trivial) (fun fuel p x=>aid true (uj d) (ri d) (sm DG) (Jl d fuel fuel) p x.1 x.2.1 x.2.2.1 x.2.2.2.1) (fun p x=>by show _=Option.map DG _; rw [aif d FU]; simp only [aid,amH,Q9,Z8,TV,ss]),
   rwX Tryz.func197 (S:=(akC d)) bf (bq ⟨akG,trivial⟩ trivial trivial ⟨ih.1,ih.2.1,trivial⟩ trivial) (fun fuel p x=>ah9 true (uj d) (ri d) (sm DG) (Ji d fuel fuel) p x.1) (fun p x=>by show _=Option.map DG _; rw [aib d FU]; simp only [ah9,amF,Q8,ss]),trivial⟩
theorem amE (d:Nat):zj Tryz.prog 197 (Z1 d):=(z7 d).2.1
def ah8 (m:Bool) {β:Type} (K:yK→Option β) (t:Tree):Option β:=(cl m (.slice az) (ri FD [] (te t)) fun r1=>(K r1))
def Z0 (t:Tree):Option yK:=ah8 false some t
def akB:Ent:=evE (.cons .tree .unit) DG (zero (.slice az)) (fun x=>Z0 x.1)
def amD:Par:=⟨ct.tab,(dn [] [] [] [(197,Z1 FD)] []),(fun _=>ao []),(fun _=>ao [])⟩
theorem amC:ar Tryz.prog 166 (akB):=evX Tryz.func166 (S:=amD) bf (bq trivial trivial trivial ⟨(amE FD),trivial⟩ trivial) (tys:=[(.slice az)]) (fun fuel x=>ah8 true (sm DG) x.1) (fun x=>by show _=Option.map DG _; simp only [ah8,Z0,ss])
abbrev uR (β:Type):=(List az.den)→Str→Int→Option β
abbrev TT (β:Type):=(List az.den)→Int→Str→Option β
def ZZ (m:Bool) {β:Type} (K:Str→Option β) (k_l6:uR β):TT β:=fun r2 i s=>(fz m aa (w64 (i+1)) fun y2_=>(k_l6 r2 s y2_))
def Jh (m:Bool) {β:Type} (K:Str→Option β) (k_l6:uR β):TT β:=fun r2 i s=>(ck (bd i r2.length) (ck (decide (s.length+(ix az r2 i).1.length≤SO)) (ck (bd i r2.length) (ck (decide ((s++(ix az r2 i).1).length+(ix az r2 i).2.1.length≤SO)) (fz m .str ((s++(ix az r2 i).1)++(ix az r2 i).2.1) fun y2_=>(ZZ m K k_l6 r2 i y2_))))))
def g4G (x0:Str) (x1:Str):Bool:=(T1 x0 x1).isSome
def g4F (x0:Str) (x1:Str):Bool:=(T1 x0 x1).getD (zero .bool)
def ZY (m:Bool) {β:Type} (K:Str→Option β) (k_l6:uR β):uR β:=fun r2 s i=>(bif (decide (i<(il r2))) then (nm m 2 (decide (i>0)) (bd i r2.length) (nq m [2,2,2,1] (decide (i>0)) (nq m [2] (bif (decide (i>0)) then (decide ((ix az r2 i).1=[])) else false) (nm m 2 (bif (decide (i>0)) then (decide ((ix az r2 i).1=[])) else false) (bd (w64 (i-1)) r2.length) (nq m [2,2] (bif (decide (i>0)) then (decide ((ix az r2 i).1=[])) else false) (nm m 2 (bif (decide (i>0)) then (decide ((ix az r2 i).1=[])) else false) (bd i r2.length) (nq m [2,2] (bif (decide (i>0)) then (decide ((ix az r2 i).1=[])) else false) (nm m 2 (bif (decide (i>0)) then (decide ((ix az r2 i).1=[])) else false) (g4G ((ix az r2 (w64 (i-1))).2.1) ((ix az r2 i).2.1)) (nq m [1] (bif (decide (i>0)) then (decide ((ix az r2 i).1=[])) else false) (bif (bif (bif (decide (i>0)) then (decide ((ix az r2 i).1=[])) else false) then (g4F ((ix az r2 (w64 (i-1))).2.1) ((ix az r2 i).2.1)) else false) then (ck (decide (s.length+([32]:List UInt8).length≤SO)) (fz m .str (s++[32]) fun y2_=>(Jh m K k_l6 r2 i y2_))) else (Jh m K k_l6 r2 i s))))))))))) else (K s))
def ah5 (m:Bool) {β:Type} (K:Str→Option β) (k_l6:uR β) (t:Tree):Option β:=(cl m .bool (TW (te t)) fun r1=>(bif (!r1) then (K []) else (cl m (.slice az) (Z0 (te t)) fun r2=>(k_l6 r2 [] 0))))
def ZX:Nat→uR Str:=lp (fun _ _ _=>none) fun k_l6=>ZY false some k_l6
def TU (t:Tree):Option Str:=ah5 false some (ZX FU) t
def aky:Ent:=evE (.cons .tree .unit) rj (zero .str) (fun x=>TU x.1)
def Jf:MS:=⟨0,[],[(3,.dat (.slice az)),(4,.dat .str),(5,.dat aa)]⟩
def akz:Par:=⟨ct.tab,(ay [(121,aim),(166,akB),(167,akV)]),(fun _=>ao [(10,Jf),(7,Jf)]),(fun _=>ao [(6,Jf)])⟩
def amB:KT:=bc ct.tab [.tmp 2] [.str]
def akA (fuel lo:Nat) (p:List Nat):Sg→KT→Option AV:=xc (aD fi0 hs0 fuel 0) akz lo fuel (sub ((Tryz.f123.body).getD .skip) p)
def Jg (fuel n:Nat):uR AV:=fun r2 s i=>aB 0 Jf (akA fuel 0 [1,1,1,1,0,1,0,0]) (ai 0 (aw 0 none (akA fuel 0 [1,1,1,1,1]) amB)) n ⟨mkE 57 [(3,.val (.slice az) r2),(4,.val .str s),(5,.val aa i)],mkH 0 []⟩
theorem ah6 (fuel n6:Nat):Jg fuel (n6+1)=ZY true (sm rj) (Jg fuel n6):=by kernel_rfl
theorem ah7 : ∀ n,Jg FU n=mp3 rj (ZX n):=bo (by kernel_rfl) fun n6 _ h=>(ah6 FU n6).trans (by rw [h]; funext _ _ _; simp only [ZY,Jh,ZZ,ss])
theorem amA:ar Tryz.prog 123 (aky):=evX Tryz.func123 (S:=akz) bf (ah ⟨akJ,amC,amV,trivial⟩) (tys:=[.str]) (fun fuel x=>ah5 true (sm rj) (Jg fuel fuel) x.1) (fun x=>by show _=Option.map rj _; rw [ah7 FU]; simp only [ah5,TU,Jh,ZZ,ss])
def ggG (d:Nat) (x0:Tree):Bool:=(Ad d x0).isSome
def ggF (d:Nat) (x0:Tree):Bool:=(Ad d x0).getD (zero .bool)
def ffG (d:Nat) (x0:Tree):Bool:=(xD d x0).isSome
def ffF (d:Nat) (x0:Tree):Int:=(xD d x0).getD (zero aa)
def glG (x0:Tree):Bool:=(TU x0).isSome
def glF (x0:Tree):Str:=(TU x0).getD (zero .str)
def ah4 (m:Bool) {β:Type} (K:Bool→Option β) (t:Tree):Option β:=(cl m .bool (TW (te t)) fun r1=>(nm m 1 r1 (ggG FD (te t)) (nq m [1] r1 (nm m 1 (bif r1 then (ggF FD (te t)) else false) (ffG FD (te t)) (nq m [2,1] (bif r1 then (ggF FD (te t)) else false) (nm m 1 (bif (bif r1 then (ggF FD (te t)) else false) then (decide ((ffF FD (te t))≤40)) else false) (glG (te t)) (nq m [2,2,1] (bif (bif r1 then (ggF FD (te t)) else false) then (decide ((ffF FD (te t))≤40)) else false) (K (bif (bif (bif r1 then (ggF FD (te t)) else false) then (decide ((ffF FD (te t))≤40)) else false) then (decide ((il (glF (te t)))≤4096)) else false)))))))))
def TS (t:Tree):Option Bool:=ah4 false some t
def akx:Ent:=evE (.cons .tree .unit) af (zero .bool) (fun x=>TS x.1)
def amz:Par:=⟨ct.tab,(ay [(121,aim),(122,ad6 FD),(106,aby FD),(123,aky)]),(fun _=>ao []),(fun _=>ao [])⟩
theorem amy:ar Tryz.prog 99 (akx):=evX Tryz.func99 (S:=amz) bf (ah ⟨akJ,(amJ FD),(aly FD),amA,trivial⟩) (tys:=[.bool]) (fun fuel x=>ah4 true (sm af) x.1) (fun x=>by show _=Option.map af _; simp only [ah4,TS,ss])
def ZV (m:Bool) {β:Type} (c_gn:Fm) (K:Int→Option β) (k_l3:nt β):nt β:=fun t t3 i=>(bif (decide (i<(il t.kids))) then (ck (bd i t.kids.length) (cl m aa (c_gn (ix .tree t.kids i)) fun r1=>(fz m aa (w64 (t3+r1)) fun y1_=>(fz m aa (w64 (i+1)) fun y2_=>(k_l3 t y1_ y2_))))) else (K t3))
def ah1 (m:Bool) {β:Type} (c_gn:Fm) (K:Int→Option β) (k_l3:nt β) (t:Tree):Option β:=(k_l3 t 1 0)
def ZU (c_gn:Fm):Nat→nt Int:=lp (fun _ _ _=>none) fun k_l3=>ZV false c_gn some k_l3
def Q7 (c_gn:Fm) (t:Tree):Option Int:=ah1 false c_gn some (ZU c_gn FU) t
def GI:Nat→Fm
 | 0=>(fun _=>none)
 | d+1=>(fun t=>Q7 ((GI d)) t)
def z8 (d:Nat) (t:Tree):Option Int:=GI d t
theorem amx (d:Nat) (t:Tree):z8 (d+1) t=Q7 (z8 d) t:=rfl
def ZW (d:Nat):Ent:=evE (.cons .tree .unit) ax (zero aa) (fun x=>z8 d x.1)
def aku (d:Nat):Par:=⟨ct.tab,(ay [(49,ZW d)]),(fun _=>ao []),(fun _=>ao [(3,yY)])⟩
def akv:KT:=bc ct.tab [.tmp 2] [aa]
def akw (d:Nat) (fuel lo:Nat) (p:List Nat):Sg→KT→Option AV:=xc (aD fi0 hs0 fuel 0) (aku d) lo fuel (sub ((Tryz.f49.body).getD .skip) p)
def Je (d:Nat) (fuel n:Nat):nt AV:=fun t t3 i=>aB 0 yY (akw d fuel 0 [1,1,0,1,0,0]) (ai 0 (aw 0 none (akw d fuel 0 [1,1,1]) akv)) n ⟨mkE 21 [(1,.box 0 0),(3,.val aa t3),(4,.val aa i)],mkH 1 [(0,.box [.val aa t.kind,.val .str t.text,.val (.slice .str) t.leads,.val (.slice .tree) t.kids])]⟩
theorem ah2 (d:Nat) (fuel n3:Nat):Je d fuel (n3+1)=ZV true (z8 d) (sm ax) (Je d fuel n3):=by kernel_rfl
theorem ah3 (d:Nat) : ∀ n,Je d FU n=mp3 ax (ZU (z8 d) n):=bo (by kernel_rfl) fun n3 _ h=>(ah2 d FU n3).trans (by rw [h]; funext _ _ _; simp only [ZV,ss])
theorem GJ : ∀ d,(ar Tryz.prog 49 (ZW d))∧True
 | 0=>⟨rz fun _=>rfl,trivial⟩
 | d+1=>by
  have ih:=GJ d
  exact ⟨evX Tryz.func49 (S:=(aku d)) bf (ah ⟨ih.1,trivial⟩) (tys:=[aa]) (fun fuel x=>ah1 true (z8 d) (sm ax) (Je d fuel fuel) x.1) (fun x=>by show _=Option.map ax _; rw [ah3 d FU]; simp only [ah1,amx,Q7,ss]),trivial⟩
theorem akt (d:Nat):ar Tryz.prog 49 (ZW d):=(GJ d).1
abbrev ZT:=(List (List Int))→Tree→(List Int)→Option (List (List Int))
abbrev xj:=(List (List Int))
abbrev Dz (β:Type):=(List Int)→(List (List Int))→Int→Int→Str→(List Str)→(List Tree)→Option β
def ZS (m:Bool) {β:Type} (c_go:ZT) (K:xj→Option β) (k_l3:Dz β):Dz β:=fun path l i b1_0 b1_1 b1_2 b1_3=>(bif (decide (i<(il b1_3))) then (ck (bd i b1_3.length) (ck (lm (List.length ([]:List Int)+List.length path)) (ck (lm (List.length ([]++path)+List.length ([i]:List Int))) (cl m (.slice (.slice aa)) (c_go l (ix .tree b1_3 i) (([]++path)++[i])) fun r1=>(fz m aa (w64 (i+1)) fun y2_=>(k_l3 path r1 y2_ b1_0 b1_1 b1_2 b1_3)))))) else (K l))
def ahY (m:Bool) {β:Type} (c_go:ZT) (K:xj→Option β) (k_l3:Dz β) (l:(List (List Int))) (t:Tree) (path:(List Int)):Option β:=(ck (lm (List.length l+List.length ([path]:List (List Int)))) (fz m (.slice (.slice aa)) (l++[path]) fun y1_=>(fz m aa (t.kind) fun y3_=>(fz m .str (t.text) fun y4_=>(fz m (.slice .str) (t.leads) fun y5_=>(fz m (.slice .tree) (t.kids) fun y6_=>(k_l3 path y1_ 0 y3_ y4_ y5_ y6_)))))))
def ZR (c_go:ZT):Nat→Dz xj:=lp (fun _ _ _ _ _ _ _=>none) fun k_l3=>ZS false c_go some k_l3
def Q6 (c_go:ZT) (l:(List (List Int))) (t:Tree) (path:(List Int)):Option xj:=ahY false c_go some (ZR c_go FU) l t path
def xi (r:xj):AV := .val (.slice (.slice aa)) r
def DK:Nat→ZT
 | 0=>(fun _ _ _=>none)
 | d+1=>(fun l t path=>Q6 ((DK d)) l t path)
def DA (d:Nat) (l:(List (List Int))) (t:Tree) (path:(List Int)):Option (List (List Int)):=DK d l t path
theorem amv (d:Nat) (l:(List (List Int))) (t:Tree) (path:(List Int)):DA (d+1) l t path=Q6 (DA d) l t path:=rfl
def ad5 (d:Nat):Rw:=rwE (.slice aa) (.cons .tree (.cons (.slice aa) .unit)) 23 (fun l x=>DA d l x.1 x.2.1)
def ZQ:MS:=⟨2,[(1,[.dat aa,.dat .str,.dat (.slice .str),.dat (.slice .tree)])],[(0,.own (.slice aa) 23),(2,.dat (.slice aa)),(4,.keep),(7,.dat aa)]⟩
def akr (d:Nat):Par:=⟨ct.tab,(dn [] [] [] [(100,ad5 d)] []),(fun _=>ao []),(fun _=>ao [(3,ZQ)])⟩
def amw:KT:=yj ct.tab [.tmp 6] (.slice aa) 23
def aks (d:Nat) (fuel lo:Nat) (p:List Nat):Sg→KT→Option AV:=xc (aD fi0 hs0 fuel 0) (akr d) lo fuel (sub ((Tryz.f100.body).getD .skip) p)
def Jd (d:Nat) (fuel n:Nat):Dz AV:=fun path l i b1_0 b1_1 b1_2 b1_3=>aB 0 ZQ (aks d fuel 0 [1,1,0,1,0,0]) (ai 0 (aw 0 none (aks d fuel 0 [1,1,1]) amw)) n ⟨mkE 33 [(0,.own 2 0 (.slice aa) l),(2,.val (.slice aa) path),(4,.box 1 0),(7,.val aa i)],mkH 3 [(0,.row (.slice aa) 23 2),(1,.box [.val aa b1_0,.val .str b1_1,.val (.slice .str) b1_2,.val (.slice .tree) b1_3]),(2,.row (.slice aa) 23 0)]⟩
theorem ahZ (d:Nat) (fuel n3:Nat):Jd d fuel (n3+1)=ZS true (DA d) (sm xi) (Jd d fuel n3):=by kernel_rfl
theorem ah0 (d:Nat) : ∀ n,Jd d FU n=mp7 xi (ZR (DA d) n):=bo (by kernel_rfl) fun n3 _ h=>(ahZ d FU n3).trans (by rw [h]; funext _ _ _ _ _ _ _; simp only [ZS,ss])
theorem DL : ∀ d,(zj Tryz.prog 100 (ad5 d))∧True
 | 0=>⟨Co fun _ _=>rfl,trivial⟩
 | d+1=>by
  have ih:=DL d
  exact ⟨rwX Tryz.func100 (S:=(akr d)) bf (bq trivial trivial trivial ⟨ih.1,trivial⟩ trivial) (fun fuel p x=>ahY true (DA d) (sm xi) (Jd d fuel fuel) p x.1 x.2.1) (fun p x=>by show _=Option.map xi _; rw [ah0 d FU]; simp only [ahY,amv,Q6,ss]),trivial⟩
theorem amu (d:Nat):zj Tryz.prog 100 (ad5 d):=(DL d).1
def ahX (m:Bool) {β:Type} (K:xj→Option β) (t:Tree):Option β:=(cl m (.slice (.slice aa)) (DA FD [] (te t) []) fun r1=>(K r1))
def ZP (t:Tree):Option xj:=ahX false some t
def akq:Ent:=evE (.cons .tree .unit) xi (zero (.slice (.slice aa))) (fun x=>ZP x.1)
def amt:Par:=⟨ct.tab,(dn [] [] [] [(100,ad5 FD)] []),(fun _=>ao []),(fun _=>ao [])⟩
theorem ams:ar Tryz.prog 50 (akq):=evX Tryz.func50 (S:=amt) bf (bq trivial trivial trivial ⟨(amu FD),trivial⟩ trivial) (tys:=[(.slice (.slice aa))]) (fun fuel x=>ahX true (sm xi) x.1) (fun x=>by show _=Option.map xi _; simp only [ahX,ZP,ss])
abbrev ZO:=(Ty.den (.cons .tree (.cons .bool .unit)))
abbrev Dy (β:Type):=(List Int)→Int→Int→Str→(List Str)→(List Tree)→Option β
def ZN (m:Bool) {β:Type} (K:ZO→Option β) (k_l2:Dy β):Dy β:=fun path i b0_0 b0_1 b0_2 b0_3=>(bif (decide (i<(il path))) then (ck (bd i path.length) (nm m 2 (!(decide ((ix aa path i)<0))) (bd i path.length) (nq m [2,2,2,3,0] (!(decide ((ix aa path i)<0))) (bif (bif (decide ((ix aa path i)<0)) then true else (decide ((ix aa path i)≥(il b0_3)))) then (K ((Tree.mk 0 [] [] []),false,())) else (ck (bd i path.length) (ck (bd (ix aa path i) b0_3.length) (fz m aa (w64 (i+1)) fun y1_=>(fz m aa ((ix .tree b0_3 (ix aa path i)).kind) fun y2_=>(fz m .str ((ix .tree b0_3 (ix aa path i)).text) fun y3_=>(fz m (.slice .str) ((ix .tree b0_3 (ix aa path i)).leads) fun y4_=>(fz m (.slice .tree) ((ix .tree b0_3 (ix aa path i)).kids) fun y5_=>(k_l2 path y1_ y2_ y3_ y4_ y5_)))))))))))) else (K ((Tree.mk b0_0 b0_1 b0_2 b0_3),true,())))
def ahU (m:Bool) {β:Type} (K:ZO→Option β) (k_l2:Dy β) (t:Tree) (path:(List Int)):Option β:=(fz m aa (t.kind) fun y2_=>(fz m .str (t.text) fun y3_=>(fz m (.slice .str) (t.leads) fun y4_=>(fz m (.slice .tree) (t.kids) fun y5_=>(k_l2 path 0 y2_ y3_ y4_ y5_)))))
def ZM:Nat→Dy ZO:=lp (fun _ _ _ _ _ _=>none) fun k_l2=>ZN false some k_l2
def ui (t:Tree) (path:(List Int)):Option ZO:=ahU false some (ZM FU) t path
def ZK (r:ZO):AV := .tup (br [.val .tree r.1,.val .bool r.2.1])
def Wl:Ent:=evE (.cons .tree (.cons (.slice aa) .unit)) ZK (zero (.cons .tree (.cons .bool .unit))) (fun x=>ui x.1 x.2.1)
def ZL:MS:=⟨2,[(0,[.dat aa,.dat .str,.dat (.slice .str),.dat (.slice .tree)]),(1,[.dat aa,.dat .str,.own .str 9,.own .tree 105])],[(1,.dat (.slice aa)),(2,.keep),(4,.keep),(6,.dat aa)]⟩
def ako:Par:=⟨ct.tab,(ay []),(fun _=>ao []),(fun _=>ao [(2,ZL)])⟩
def amr:KT:=bc ct.tab [.cell 4 105,.tmp 5] [.tree,.bool]
def akp (fuel lo:Nat) (p:List Nat):Sg→KT→Option AV:=xc (aD fi0 hs0 fuel 0) ako lo fuel (sub ((Tryz.f51.body).getD .skip) p)
def Jc (fuel n:Nat):Dy AV:=fun path i b0_0 b0_1 b0_2 b0_3=>aB 0 ZL (akp fuel 0 [1,0,1,0,0]) (ai 0 (aw 0 none (akp fuel 0 [1,1]) amr)) n ⟨mkE 38 [(1,.val (.slice aa) path),(2,.box 0 0),(4,.box 1 0),(6,.val aa i)],mkH 4 [(0,.box [.val aa b0_0,.val .str b0_1,.val (.slice .str) b0_2,.val (.slice .tree) b0_3]),(1,.box [.val aa (0:Int),.val .str [],.own 2 0 .str [],.own 3 0 .tree []]),(2,.row .str 9 0),(3,.row .tree 105 0)]⟩
theorem ahV (fuel n2:Nat):Jc fuel (n2+1)=ZN true (sm ZK) (Jc fuel n2):=by kernel_rfl
theorem ahW : ∀ n,Jc FU n=mp6 ZK (ZM n):=bo (by kernel_rfl) fun n2 _ h=>(ahV FU n2).trans (by rw [h]; funext _ _ _ _ _ _; simp only [ZN,ss])
theorem ZJ:ar Tryz.prog 51 (Wl):=evX Tryz.func51 (S:=ako) bf (ah trivial) (tys:=[.tree,.bool]) (fun fuel x=>ahU true (sm ZK) (Jc fuel fuel) x.1 x.2.1) (fun x=>by show _=Option.map ZK _; rw [ahW FU]; simp only [ahU,ui,ss])
abbrev uQ (β:Type):=(List Int)→Int→Int→Int→Str→(List Str)→(List Tree)→Option β
abbrev Dv (β:Type):=(List Int)→Int→Int→Str→(List Str)→(List Tree)→Int→Int→Option β
def ZI (m:Bool) {β:Type} (K:Int→Option β) (k_l9:Dv β):uQ β:=fun path t5 i b0_0 b0_1 b0_2 b0_3=>(bif (decide (i<(il path))) then (ck (bd i path.length) (nm m 2 (!(decide ((ix aa path i)<0))) (bd i path.length) (nq m [2,2,2,3,0] (!(decide ((ix aa path i)<0))) (bif (bif (decide ((ix aa path i)<0)) then true else (decide ((ix aa path i)≥(il b0_3)))) then (K (-1)) else (fz m aa (w64 (t5+1)) fun y6_=>(k_l9 path i b0_0 b0_1 b0_2 b0_3 y6_ 0)))))) else (K t5))
def ZG (m:Bool) {β:Type} (K:Int→Option β) (k_l9:Dv β) (k_l3:uQ β):Dv β:=fun path i b0_0 b0_1 b0_2 b0_3 t5 t7=>(ck (bd i path.length) (bif (decide (t7<(ix aa path i))) then (ck (bd t7 b0_3.length) (cl m aa (z8 FD (ix .tree b0_3 t7)) fun r1=>(fz m aa (w64 (t5+r1)) fun y6_=>(fz m aa (w64 (t7+1)) fun y7_=>(k_l9 path i b0_0 b0_1 b0_2 b0_3 y6_ y7_))))) else (ck (bd i path.length) (ck (bd (ix aa path i) b0_3.length) (fz m aa (w64 (i+1)) fun y2_=>(fz m aa ((ix .tree b0_3 (ix aa path i)).kind) fun y3_=>(fz m .str ((ix .tree b0_3 (ix aa path i)).text) fun y4_=>(fz m (.slice .str) ((ix .tree b0_3 (ix aa path i)).leads) fun y5_=>(fz m (.slice .tree) ((ix .tree b0_3 (ix aa path i)).kids) fun y6_=>(k_l3 path t5 y2_ y3_ y4_ y5_ y6_))))))))))
def ahP (m:Bool) {β:Type} (K:Int→Option β) (k_l3:uQ β) (t:Tree) (path:(List Int)):Option β:=(fz m aa (t.kind) fun y3_=>(fz m .str (t.text) fun y4_=>(fz m (.slice .str) (t.leads) fun y5_=>(fz m (.slice .tree) (t.kids) fun y6_=>(k_l3 path 0 0 y3_ y4_ y5_ y6_)))))
def ZF (k_l3:uQ Int):Nat→Dv Int:=lp (fun _ _ _ _ _ _ _ _=>none) fun k_l9=>ZG false some k_l9 k_l3
def ZH:Nat→uQ Int:=lp (fun _ _ _ _ _ _ _=>none) fun k_l3=>ZI false some (ZF k_l3 FU)
def Dx (t:Tree) (path:(List Int)):Option Int:=ahP false some (ZH FU) t path
def ad4:Ent:=evE (.cons .tree (.cons (.slice aa) .unit)) ax (zero aa) (fun x=>Dx x.1 x.2.1)
def Q4:MS:=⟨1,[(0,[.dat aa,.dat .str,.dat (.slice .str),.dat (.slice .tree)])],[(1,.dat (.slice aa)),(2,.keep),(5,.dat aa),(6,.dat aa)]⟩
def ZE:MS:=⟨1,[(0,[.dat aa,.dat .str,.dat (.slice .str),.dat (.slice .tree)])],[(1,.dat (.slice aa)),(2,.keep),(5,.dat aa),(6,.dat aa),(7,.dat aa)]⟩
def akn:Par:=⟨ct.tab,(ay [(49,ZW FD)]),(fun _=>ao []),(fun _=>ao [(3,Q4),(9,ZE)])⟩
def Q5 (fuel lo:Nat) (p:List Nat):Sg→KT→Option AV:=xc (aD fi0 hs0 fuel 0) akn lo fuel (sub ((Tryz.f101.body).getD .skip) p)
def Dw (fuel n:Nat):uQ AV:=fun path t5 i b0_0 b0_1 b0_2 b0_3=>aB 0 Q4 (Q5 fuel 0 [1,1,0,1,0,0]) (ai 0 (aw 0 none (Q5 fuel 0 [1,1,1]) aan)) n ⟨mkE 56 [(1,.val (.slice aa) path),(2,.box 0 0),(5,.val aa t5),(6,.val aa i)],mkH 1 [(0,.box [.val aa b0_0,.val .str b0_1,.val (.slice .str) b0_2,.val (.slice .tree) b0_3])]⟩
def Jb (fuel n3 n:Nat):Dv AV:=fun path i b0_0 b0_1 b0_2 b0_3 t5 t7=>aB 0 ZE (Q5 fuel 0 [1,1,0,1,0,0,1,0,0,1,1,0,1,0,0]) (ai 2 (aw 0 none (Q5 fuel 0 [1,1,0,1,0,0,1,0,0,1,1,1]) (ai 1 (aw 0 none (Q5 fuel 0 [1,1,0,1,0,0,1,1]) (kLp 0 Q4 (Q5 fuel 0 [1,1,0,1,0,0]) (ai 0 (aw 0 none (Q5 fuel 0 [1,1,1]) aan)) n3))))) n ⟨mkE 56 [(1,.val (.slice aa) path),(2,.box 0 0),(5,.val aa t5),(6,.val aa i),(7,.val aa t7)],mkH 1 [(0,.box [.val aa b0_0,.val .str b0_1,.val (.slice .str) b0_2,.val (.slice .tree) b0_3])]⟩
theorem ahS (fuel n3:Nat):Dw fuel (n3+1)=ZI true (sm ax) (Jb fuel n3 fuel):=by kernel_rfl
theorem ahQ (fuel n3 n9:Nat):Jb fuel n3 (n9+1)=ZG true (sm ax) (Jb fuel n3 n9) (Dw fuel n3):=by kernel_rfl
theorem ahR (n3:Nat) {k_l3:uQ Int} (h_l3:Dw FU n3=mp7 ax k_l3) : ∀ n,Jb FU n3 n=mp8 ax (ZF k_l3 n):=bo (by kernel_rfl) fun n9 _ h=>(ahQ FU n3 n9).trans (by rw [h,h_l3]; funext _ _ _ _ _ _ _ _; simp only [ZG,ss])
theorem ahT : ∀ n,Dw FU n=mp7 ax (ZH n):=bo (by kernel_rfl) fun n3 _ h=>(ahS FU n3).trans (by rw [ahR n3 h FU]; funext _ _ _ _ _ _ _; simp only [ZI,ss])
theorem ahO:ar Tryz.prog 101 (ad4):=evX Tryz.func101 (S:=akn) bf (ah ⟨(akt FD),trivial⟩) (tys:=[aa]) (fun fuel x=>ahP true (sm ax) (Dw fuel fuel) x.1 x.2.1) (fun x=>by show _=Option.map ax _; rw [ahT FU]; simp only [ahP,Dx,ss])
def gdG (d:Nat) (x0:Tree):Bool:=(xl d x0).isSome
def gdF (d:Nat) (x0:Tree):Bool:=(xl d x0).getD (zero .bool)
def ahN (m:Bool) {β:Type} (K:Bool→Option β) (f:Tree):Option β:=(nm m 1 (decide (f.kind=2)) (gdG FD (te f)) (nq m [1] (decide (f.kind=2)) (K (bif (decide (f.kind=2)) then (gdF FD (te f)) else false))))
def ZD (f:Tree):Option Bool:=ahN false some f
def akm:Ent:=evE (.cons .tree .unit) af (zero .bool) (fun x=>ZD x.1)
def amq:Par:=⟨ct.tab,(ay [(164,aak FD)]),(fun _=>ao []),(fun _=>ao [])⟩
theorem amp:ar Tryz.prog 168 (akm):=evX Tryz.func168 (S:=amq) bf (ah ⟨(akL FD),trivial⟩) (tys:=[.bool]) (fun fuel x=>ahN true (sm af) x.1) (fun x=>by show _=Option.map af _; simp only [ahN,ZD,ss])
abbrev yJ (β:Type):=(List Int)→Tree→(List (List Int))→Int→Option β
abbrev ahK (β:Type):=(List Int)→Tree→Int→(List (List Int))→Option β
abbrev xh (β:Type):=Tree→(List (List Int))→Int→Option β
def NL (m:Bool) {β:Type} (K:xj→Option β) (k_l7:yJ β):ahK β:=fun path f t9 l=>(fz m aa (w64 (t9-1)) fun y3_=>(k_l7 path f l y3_))
def ZB (m:Bool) {β:Type} (K:xj→Option β) (k_l7:yJ β) (k_l13:xh β):yJ β:=fun path f l t9=>(bif (decide (t9>0)) then (ck (decide (0≤(w64 (t9-1)))&&decide ((w64 (t9-1))≤(path.length:Int))) (cl m (.cons .tree (.cons .bool .unit)) (ui (te f) ((List.take (Int.toNat (w64 (t9-1))) path).drop 0)) fun r2=>(nq m [2] (decide (r2.1.kind=20)) (nm m 2 (decide (r2.1.kind=20)) (bd (w64 (t9-1)) path.length) (nq m [2,2,1] (decide (r2.1.kind=20)) (bif (bif (decide (r2.1.kind=20)) then (decide ((ix aa path (w64 (t9-1)))=1)) else false) then (ck (decide (0≤(w64 (t9-1)))&&decide ((w64 (t9-1))≤(path.length:Int))) (ck (lm (List.length l+List.length ([((List.take (Int.toNat (w64 (t9-1))) path).drop 0)]:List (List Int)))) (fz m (.slice (.slice aa)) (l++[((List.take (Int.toNat (w64 (t9-1))) path).drop 0)]) fun y3_=>(NL m K k_l7 path f t9 y3_)))) else (NL m K k_l7 path f t9 l))))))) else (k_l13 f l 0))
def Q3 (m:Bool) {β:Type} (K:xj→Option β) (k_l13:xh β):xh β:=fun f l i=>(bif (decide (i<(w64 ((il f.kids)-2)))) then (ck (lm (List.length l+List.length ([[i]]:List (List Int)))) (fz m (.slice (.slice aa)) (l++[[i]]) fun y1_=>(fz m aa (w64 (i+1)) fun y2_=>(k_l13 f y1_ y2_)))) else (K l))
def ahJ (m:Bool) {β:Type} (K:xj→Option β) (k_l7:yJ β) (f:Tree) (path:(List Int)):Option β:=(cl m (.cons .tree (.cons .bool .unit)) (ui (te f) path) fun r1=>(nq m [2,2,0] (!(!r1.2.1)) (nm m 1 (!(bif (!r1.2.1) then true else (decide ((il path)=0)))) (bd 0 path.length) (nq m [2,2,3,0] (!(bif (!r1.2.1) then true else (decide ((il path)=0)))) (bif (bif (bif (!r1.2.1) then true else (decide ((il path)=0))) then true else (!decide ((ix aa path 0)=(w64 ((il f.kids)-1))))) then (K []) else (fz m aa (il path) fun y3_=>(k_l7 path f [] y3_)))))))
def TR:Nat→xh xj:=lp (fun _ _ _=>none) fun k_l13=>Q3 false some k_l13
def ZA:Nat→yJ xj:=lp (fun _ _ _ _=>none) fun k_l7=>ZB false some k_l7 (TR FU)
def ZC (f:Tree) (path:(List Int)):Option xj:=ahJ false some (ZA FU) f path
def akj:Ent:=evE (.cons .tree (.cons (.slice aa) .unit)) xi (zero (.slice (.slice aa))) (fun x=>ZC x.1 x.2.1)
def Q2:MS:=⟨1,[(0,[.dat aa,.dat .str,.dat (.slice .str),.dat (.slice .tree)])],[(1,.dat (.slice aa)),(2,.keep),(5,.dat aa),(8,.own (.slice aa) 23),(9,.dat aa)]⟩
def TQ:MS:=⟨0,[],[(5,.dat aa),(8,.own (.slice aa) 23),(12,.dat aa)]⟩
def akk:Par:=⟨ct.tab,(ay [(51,Wl)]),(fun _=>ao [(8,Q2)]),(fun _=>ao [(7,Q2),(13,TQ)])⟩
def akl:KT:=bc ct.tab [.tmp 4] [(.slice (.slice aa))]
def ad3 (fuel lo:Nat) (p:List Nat):Sg→KT→Option AV:=xc (aD fi0 hs0 fuel 0) akk lo fuel (sub ((Tryz.f169.body).getD .skip) p)
def Ja (fuel n:Nat):yJ AV:=fun path f l t9=>aB 0 Q2 (ad3 fuel 0 [1,1,1,1,1,0,1,0,0]) (ai 0 (aw 0 none (ad3 fuel 0 [1,1,1,1,1,1]) akl)) n ⟨mkE 82 [(1,.val (.slice aa) path),(2,.box 0 0),(5,.val aa (il f.kids)),(8,.own 1 0 (.slice aa) l),(9,.val aa t9)],mkH 2 [(0,.box [.val aa f.kind,.val .str f.text,.val (.slice .str) f.leads,.val (.slice .tree) f.kids]),(1,.row (.slice aa) 23 0)]⟩
def Bk (fuel n:Nat):xh AV:=fun f l i=>aB 0 TQ (ad3 fuel 0 [1,1,1,1,1,1,0,1,0,0]) (ai 2 (aw 0 none (ad3 fuel 0 [1,1,1,1,1,1,1]) akl)) n ⟨mkE 82 [(5,.val aa (il f.kids)),(8,.own 0 0 (.slice aa) l),(12,.val aa i)],mkH 1 [(0,.row (.slice aa) 23 0)]⟩
theorem ahL (fuel n7:Nat):Ja fuel (n7+1)=ZB true (sm xi) (Ja fuel n7) (Bk fuel fuel):=by kernel_rfl
theorem ad1 (fuel n13:Nat):Bk fuel (n13+1)=Q3 true (sm xi) (Bk fuel n13):=by kernel_rfl
theorem ad2 : ∀ n,Bk FU n=mp3 xi (TR n):=bo (by kernel_rfl) fun n13 _ h=>(ad1 FU n13).trans (by rw [h]; funext _ _ _; simp only [Q3,NL,ss])
theorem ahM : ∀ n,Ja FU n=mp4 xi (ZA n):=bo (by kernel_rfl) fun n7 _ h=>(ahL FU n7).trans (by rw [h,ad2 FU]; funext _ _ _ _; simp only [ZB,NL,ss])
theorem amo:ar Tryz.prog 169 (akj):=evX Tryz.func169 (S:=akk) bf (ah ⟨ZJ,trivial⟩) (tys:=[(.slice (.slice aa))]) (fun fuel x=>ahJ true (sm xi) (Ja fuel fuel) x.1 x.2.1) (fun x=>by show _=Option.map xi _; rw [ahM FU]; simp only [ahJ,ZC,NL,ss])
abbrev Zz:=(Ty.den (.cons (.slice aa) (.cons .bool .unit)))
abbrev Du (β:Type):=Str→(List (List Int))→Tree→Int→Option β
def Zx (m:Bool) {β:Type} (K:Zz→Option β) (k_l5:Du β):Du β:=fun name r2 f i=>(bif (decide (i<(il r2))) then (ck (bd i r2.length) (cl m (.cons .tree (.cons .bool .unit)) (ui (te f) (ix (.slice aa) r2 i)) fun r3=>(bif (decide (r3.1.text=name)) then (ck (bd i r2.length) (ck (lm (List.length ([]:List Int)+List.length (ix (.slice aa) r2 i))) (K (([]++(ix (.slice aa) r2 i)),true,())))) else (fz m aa (w64 (i+1)) fun y3_=>(k_l5 name r2 f y3_))))) else (K ([],false,())))
def ahG (m:Bool) {β:Type} (K:Zz→Option β) (k_l5:Du β) (f:Tree) (path:(List Int)) (name:Str):Option β:=(cl m .bool (ZD (te f)) fun r1=>(bif (!r1) then (K ([],false,())) else (cl m (.slice (.slice aa)) (ZC (te f) path) fun r2=>(k_l5 name r2 f 0))))
def Zw:Nat→Du Zz:=lp (fun _ _ _ _=>none) fun k_l5=>Zx false some k_l5
def Zy (f:Tree) (path:(List Int)) (name:Str):Option Zz:=ahG false some (Zw FU) f path name
def Zu (r:Zz):AV := .tup (br [.val (.slice aa) r.1,.val .bool r.2.1])
def akg:Ent:=evE (.cons .tree (.cons (.slice aa) (.cons .str .unit))) Zu (zero (.cons (.slice aa) (.cons .bool .unit))) (fun x=>Zy x.1 x.2.1 x.2.2.1)
def Zv:MS:=⟨1,[(0,[.dat aa,.dat .str,.dat (.slice .str),.dat (.slice .tree)])],[(2,.dat .str),(3,.keep),(8,.dat (.slice (.slice aa))),(9,.dat aa)]⟩
def akh:Par:=⟨ct.tab,(ay [(168,akm),(169,akj),(51,Wl)]),(fun _=>ao []),(fun _=>ao [(5,Zv)])⟩
def amn:KT:=bc ct.tab [.tmp 6,.tmp 7] [(.slice aa),.bool]
def aki (fuel lo:Nat) (p:List Nat):Sg→KT→Option AV:=xc (aD fi0 hs0 fuel 0) akh lo fuel (sub ((Tryz.f124.body).getD .skip) p)
def I9 (fuel n:Nat):Du AV:=fun name r2 f i=>aB 0 Zv (aki fuel 0 [1,1,1,0,1,0,0]) (ai 0 (aw 0 none (aki fuel 0 [1,1,1,1]) amn)) n ⟨mkE 43 [(2,.val .str name),(3,.box 0 0),(8,.val (.slice (.slice aa)) r2),(9,.val aa i)],mkH 1 [(0,.box [.val aa f.kind,.val .str f.text,.val (.slice .str) f.leads,.val (.slice .tree) f.kids])]⟩
theorem ahH (fuel n5:Nat):I9 fuel (n5+1)=Zx true (sm Zu) (I9 fuel n5):=by kernel_rfl
theorem ahI : ∀ n,I9 FU n=mp4 Zu (Zw n):=bo (by kernel_rfl) fun n5 _ h=>(ahH FU n5).trans (by rw [h]; funext _ _ _ _; simp only [Zx,ss])
theorem amm:ar Tryz.prog 124 (akg):=evX Tryz.func124 (S:=akh) bf (ah ⟨amp,amo,ZJ,trivial⟩) (tys:=[(.slice aa),.bool]) (fun fuel x=>ahG true (sm Zu) (I9 fuel fuel) x.1 x.2.1 x.2.2.1) (fun x=>by show _=Option.map Zu _; rw [ahI FU]; simp only [ahG,Zy,ss])
abbrev fO (β:Type):=Str→Int→Option β
def Zs (m:Bool) {β:Type} (K:Int→Option β) (k_l2:fO β):fO β:=fun s i=>(bif (decide (i<(il s))) then (ck (bd i s.length) (bif (decide ((ixs s i)=46)) then (K i) else (fz m aa (w64 (i+1)) fun y1_=>(k_l2 s y1_)))) else (K (-1)))
def ahD (m:Bool) {β:Type} (K:Int→Option β) (k_l2:fO β) (s:Str):Option β:=(k_l2 s 0)
def Zr:Nat→fO Int:=lp (fun _ _=>none) fun k_l2=>Zs false some k_l2
def Zt (s:Str):Option Int:=ahD false some (Zr FU) s
def ake:Ent:=evE (.cons .str .unit) ax (zero aa) (fun x=>Zt x.1)
def Dt:MS:=⟨0,[],[(0,.dat .str),(3,.dat aa)]⟩
def ad0:Par:=⟨ct.tab,(ay []),(fun _=>ao []),(fun _=>ao [(2,Dt)])⟩
def akf (fuel lo:Nat) (p:List Nat):Sg→KT→Option AV:=xc (aD fi0 hs0 fuel 0) ad0 lo fuel (sub ((Tryz.f170.body).getD .skip) p)
def I8 (fuel n:Nat):fO AV:=fun s i=>aB 0 Dt (akf fuel 0 [1,0,1,0,0]) (ai 0 (aw 0 none (akf fuel 0 [1,1]) akv)) n ⟨mkE 15 [(0,.val .str s),(3,.val aa i)],mkH 0 []⟩
theorem ahE (fuel n2:Nat):I8 fuel (n2+1)=Zs true (sm ax) (I8 fuel n2):=by kernel_rfl
theorem ahF : ∀ n,I8 FU n=mp2 ax (Zr n):=bo (by kernel_rfl) fun n2 _ h=>(ahE FU n2).trans (by rw [h]; funext _ _; simp only [Zs,ss])
theorem aml:ar Tryz.prog 170 (ake):=evX Tryz.func170 (S:=ad0) bf (ah trivial) (tys:=[aa]) (fun fuel x=>ahD true (sm ax) (I8 fuel fuel) x.1) (fun x=>by show _=Option.map ax _; rw [ahF FU]; simp only [ahD,Zt,ss])
abbrev NH:=(Ty.den (.cons aa (.cons aa (.cons .bool .unit))))
abbrev Ds (β:Type):=(List Tree)→Str→Int→Int→Option β
abbrev ahA (β:Type):=(List Tree)→Int→Str→Option β
abbrev pZ (β:Type):=(List Tree)→Int→Str→Int→Option β
def NG (m:Bool) {β:Type} (K:NH→Option β) (k_l10:pZ β):ahA β:=fun p t1 word=>(k_l10 p t1 word 0)
def Zp (m:Bool) {β:Type} (K:NH→Option β) (k_l4:Ds β) (k_l10:pZ β):Ds β:=fun p word r1 t10=>(nm m 2 (decide (t10<(il p))) (bd t10 p.length) (nq m [2,2] (decide (t10<(il p))) (nm m 2 (decide (t10<(il p))) (decide (0≤r1)&&decide (r1≤(word.length:Int))) (nq m [3,1] (decide (t10<(il p))) (bif (bif (decide (t10<(il p))) then (!decide ((ix .tree p t10).text=((List.take (Int.toNat r1) word).drop 0))) else false) then (fz m aa (w64 (t10+1)) fun y3_=>(k_l4 p word r1 y3_)) else (bif (decide (t10=(il p))) then (K ((0:Int),(0:Int),false,())) else (ck (decide (0≤(w64 (r1+1)))&&decide ((w64 (r1+1))≤(word.length:Int))) (fz m .str ((List.take (List.length word) word).drop (Int.toNat (w64 (r1+1)))) fun y2_=>(NG m K k_l10 p t10 y2_)))))))))
def Q1 (m:Bool) {β:Type} (K:NH→Option β) (k_l10:pZ β):pZ β:=fun p t1 word i=>(ck (bd t1 p.length) (bif (decide (i<(il ((ix .tree p t1).kids)))) then (ck (bd t1 p.length) (ck (bd i ((ix .tree p t1).kids).length) (bif (decide ((ix .tree (ix .tree p t1).kids i).text=word)) then (K (t1,i,true,())) else (fz m aa (w64 (i+1)) fun y3_=>(k_l10 p t1 word y3_))))) else (K ((0:Int),(0:Int),false,()))))
def ahz (m:Bool) {β:Type} (K:NH→Option β) (k_l4:Ds β) (k_l10:pZ β) (p:(List Tree)) (t1:Int) (word:Str):Option β:=(cl m aa (Zt word) fun r1=>(bif (decide (r1≥0)) then (k_l4 p word r1 0) else (NG m K k_l10 p t1 word)))
def I7:Nat→pZ NH:=lp (fun _ _ _ _=>none) fun k_l10=>Q1 false some k_l10
def Zo:Nat→Ds NH:=lp (fun _ _ _ _=>none) fun k_l4=>Zp false some k_l4 (I7 FU)
def TP (p:(List Tree)) (t1:Int) (word:Str):Option NH:=ahz false some (Zo FU) (I7 FU) p t1 word
def Q0 (r:NH):AV := .tup (br [.val aa r.1,.val aa r.2.1,.val .bool r.2.2.1])
def akb:Ent:=evE (.cons (.slice .tree) (.cons aa (.cons .str .unit))) Q0 (zero (.cons aa (.cons aa (.cons .bool .unit)))) (fun x=>TP x.1 x.2.1 x.2.2.1)
def Zm:MS:=⟨0,[],[(0,.dat (.slice .tree)),(2,.dat .str),(9,.dat aa),(10,.dat aa)]⟩
def TN:MS:=⟨0,[],[(0,.dat (.slice .tree)),(1,.dat aa),(2,.dat .str),(11,.dat aa)]⟩
def Zn:MS:=⟨0,[],[(0,.dat (.slice .tree)),(1,.dat aa),(2,.dat .str)]⟩
def akc:Par:=⟨ct.tab,(ay [(170,ake)]),(fun _=>ao [(9,Zn)]),(fun _=>ao [(4,Zm),(10,TN)])⟩
def akd:KT:=bc ct.tab [.tmp 6,.tmp 7,.tmp 8] [aa,aa,.bool]
def Zq (fuel lo:Nat) (p:List Nat):Sg→KT→Option AV:=xc (aD fi0 hs0 fuel 0) akc lo fuel (sub ((Tryz.f125.body).getD .skip) p)
def I6 (fuel n:Nat):Ds AV:=fun p word r1 t10=>aB 0 Zm (Zq fuel 0 [1,1,0,1,0,1,0,0,0]) (ai 0 (aw 0 none (Zq fuel 0 [1,1,0,1,0,1,1]) (aw 0 (some Zn) (Zq fuel 0 [1,1,1]) akd))) n ⟨mkE 65 [(0,.val (.slice .tree) p),(2,.val .str word),(9,.val aa r1),(10,.val aa t10)],mkH 0 []⟩
def xf (fuel n:Nat):pZ AV:=fun p t1 word i=>aB 0 TN (Zq fuel 0 [1,1,1,0,1,0,0]) (ai 2 (aw 0 none (Zq fuel 0 [1,1,1,1]) akd)) n ⟨mkE 65 [(0,.val (.slice .tree) p),(1,.val aa t1),(2,.val .str word),(11,.val aa i)],mkH 0 []⟩
theorem ahB (fuel n4:Nat):I6 fuel (n4+1)=Zp true (sm Q0) (I6 fuel n4) (xf fuel fuel):=by kernel_rfl
theorem adZ (fuel n10:Nat):xf fuel (n10+1)=Q1 true (sm Q0) (xf fuel n10):=by kernel_rfl
theorem TO : ∀ n,xf FU n=mp4 Q0 (I7 n):=bo (by kernel_rfl) fun n10 _ h=>(adZ FU n10).trans (by rw [h]; funext _ _ _ _; simp only [Q1,NG,ss])
theorem ahC : ∀ n,I6 FU n=mp4 Q0 (Zo n):=bo (by kernel_rfl) fun n4 _ h=>(ahB FU n4).trans (by rw [h,TO FU]; funext _ _ _ _; simp only [Zp,NG,ss])
theorem amk:ar Tryz.prog 125 (akb):=evX Tryz.func125 (S:=akc) bf (ah ⟨aml,trivial⟩) (tys:=[aa,aa,.bool]) (fun fuel x=>ahz true (sm Q0) (I6 fuel fuel) (xf fuel fuel) x.1 x.2.1 x.2.2.1) (fun x=>by show _=Option.map Q0 _; rw [ahC FU,TO FU]; simp only [ahz,TP,NG,ss])
def B9 (m:Bool) {β:Type} (K:Bool→Option β) (id:Int):Option β:=(nq m [2,1] (decide (id≥1048576)) (K (bif (decide (id≥1048576)) then (decide (id<34603008)) else false)))
def nU (id:Int):Option Bool:=B9 false some id
def Ca:Ent:=evE (.cons aa .unit) af (zero .bool) (fun x=>nU x.1)
theorem LW:ar Tryz.prog 48 (Ca):=evX Tryz.func48 (S:=uL) bf (ah trivial) (tys:=[.bool]) (fun fuel x=>B9 true (sm af) x.1) (fun x=>by show _=Option.map af _; simp only [B9,nU,ss])
def yu (m:Bool) {β:Type} (K:bm.den→Option β) (id:Int) (t1:Int):Option β:=(cl m .bool (nU id) fun r1=>(nq m [2,0] (!(!r1)) (bif (bif (!r1) then true else (decide (t1<0))) then (K ((0:Int),(5:Int),())) else (ck (!decide ((1048576:Int)=0)) (bif (decide (t1>(w64 ((1048575:Int)-(Int.tmod id 1048576))))) then (K ((0:Int),(17:Int),())) else (ck (!decide ((1048576:Int)=0)) (bif (decide ((w64 ((Int.tmod id 1048576)+t1))=0)) then (K ((0:Int),(5:Int),())) else (K ((w64 (id+t1)),(0:Int),())))))))))
def pF (id:Int) (t1:Int):Option bm.den:=yu false some id t1
def yv:Ent:=evE (.cons aa (.cons aa .unit)) d9 (zero bm) (fun x=>pF x.1 x.2.1)
def VC:Par:=⟨ct.tab,(ay [(48,Ca)]),(fun _=>ao []),(fun _=>ao [])⟩
theorem Gr:ar Tryz.prog 24 (yv):=evX Tryz.func24 (S:=VC) bf (ah ⟨LW,trivial⟩) (tys:=[aa,aa]) (fun fuel x=>yu true (sm d9) x.1 x.2.1) (fun x=>by show _=Option.map d9 _; simp only [yu,pF,ss])
abbrev Dr (β:Type):=Int→(List Str)→Int→Option β
def Zk (m:Bool) {β:Type} (K:(List Str)→Option β) (k_l6:Dr β):Dr β:=fun t0 l i=>(bif (decide (i≤t0)) then (ck (!decide ((25:Int)=0)) (ck (!decide ((25:Int)=0)) (ck (lm (List.length l+List.length ([(List.map (fun n:Int=>UInt8.ofNat n.toNat) [(IntKind.wrap .u8 (w64 ((97:Int)+(w64 (Int.tdiv (w64 (i * (w64 (Int.tdiv 650 (w64 (t0+1)))))) 25))))),(IntKind.wrap .u8 (w64 ((98:Int)+(Int.tmod (w64 (i * (w64 (Int.tdiv 650 (w64 (t0+1)))))) 25))))])]:List Str))) (fz m (.slice .str) (l++[(List.map (fun n:Int=>UInt8.ofNat n.toNat) [(IntKind.wrap .u8 (w64 ((97:Int)+(w64 (Int.tdiv (w64 (i * (w64 (Int.tdiv 650 (w64 (t0+1)))))) 25))))),(IntKind.wrap .u8 (w64 ((98:Int)+(Int.tmod (w64 (i * (w64 (Int.tdiv 650 (w64 (t0+1)))))) 25))))])]) fun y1_=>(fz m aa (w64 (i+1)) fun y2_=>(k_l6 t0 y1_ y2_)))))) else (K l))
def ahw (m:Bool) {β:Type} (K:(List Str)→Option β) (k_l6:Dr β) (t0:Int):Option β:=(nq m [2,0] (!(decide (t0<0))) (bif (bif (decide (t0<0)) then true else (decide (t0>400))) then (K []) else (ck (!decide ((w64 (t0+1))=0)) (k_l6 t0 [] 1))))
def Zj:Nat→Dr (List Str):=lp (fun _ _ _=>none) fun k_l6=>Zk false some k_l6
def Zl (t0:Int):Option (List Str):=ahw false some (Zj FU) t0
def aj8:Ent:=evE (.cons aa .unit) NP (zero (.slice .str)) (fun x=>Zl x.1)
def Zi:MS:=⟨0,[],[(0,.dat aa),(3,.own .str 9),(4,.dat aa),(5,.dat aa)]⟩
def aj9:Par:=⟨ct.tab,(ay []),(fun _=>ao []),(fun _=>ao [(6,Zi)])⟩
def amj:KT:=bc ct.tab [.tmp 2] [(.slice .str)]
def aka (fuel lo:Nat) (p:List Nat):Sg→KT→Option AV:=xc (aD fi0 hs0 fuel 0) aj9 lo fuel (sub ((Tryz.f53.body).getD .skip) p)
def I5 (fuel n:Nat):Dr AV:=fun t0 l i=>aB 0 Zi (aka fuel 0 [1,1,1,1,0,1,0,0]) (ai 0 (aw 0 none (aka fuel 0 [1,1,1,1,1]) amj)) n ⟨mkE 38 [(0,.val aa t0),(3,.own 0 0 .str l),(4,.val aa (w64 (Int.tdiv 650 (w64 (t0+1))))),(5,.val aa i)],mkH 1 [(0,.row .str 9 0)]⟩
theorem ahx (fuel n6:Nat):I5 fuel (n6+1)=Zk true (sm NP) (I5 fuel n6):=by kernel_rfl
theorem ahy : ∀ n,I5 FU n=mp3 NP (Zj n):=bo (by kernel_rfl) fun n6 _ h=>(ahx FU n6).trans (by rw [h]; funext _ _ _; simp only [Zk,ss])
theorem ami:ar Tryz.prog 53 (aj8):=evX Tryz.func53 (S:=aj9) bf (ah trivial) (tys:=[(.slice .str)]) (fun fuel x=>ahw true (sm NP) (I5 fuel fuel) x.1) (fun x=>by show _=Option.map NP _; rw [ahy FU]; simp only [ahw,Zl,ss])
abbrev bD:=(List ac.den)
abbrev tm (β:Type):=(List ac.den)→(List ac.den)→Int→Option β
abbrev aet (β:Type):=(List ac.den)→Int→(List ac.den)→Option β
def JI (m:Bool) {β:Type} (K:bD→Option β) (k_l3:tm β):aet β:=fun l i out=>(fz m aa (w64 (i+1)) fun y2_=>(k_l3 l out y2_))
def Rp (m:Bool) {β:Type} (K:bD→Option β) (k_l3:tm β):tm β:=fun l out i=>(bif (decide (i<(il l))) then (ck (bd i l.length) (bif (!eqD ap (ix ac l i).2.2.1 (0,false,[],0,())) then (ck (bd i l.length) (ck (lm (List.length out+List.length ([(ix ac l i)]:List ac.den))) (fz m (.slice ac) (out++[(ix ac l i)]) fun y2_=>(JI m K k_l3 l i y2_)))) else (JI m K k_l3 l i out))) else (K out))
def aaZ (m:Bool) {β:Type} (K:bD→Option β) (k_l3:tm β) (l:(List ac.den)):Option β:=(k_l3 l [] 0)
def T8:Nat→tm bD:=lp (fun _ _ _=>none) fun k_l3=>Rp false some k_l3
def Rq (l:(List ac.den)):Option bD:=aaZ false some (T8 FU) l
def bL (r:bD):AV := .val (.slice ac) r
def agA:Ent:=evE (.cons (.slice ac) .unit) bL (zero (.slice ac)) (fun x=>Rq x.1)
def JH:MS:=⟨0,[],[(0,.dat (.slice ac)),(3,.own ac 86),(4,.dat aa)]⟩
def agB:Par:=⟨ct.tab,(ay []),(fun _=>ao [(4,JH)]),(fun _=>ao [(3,JH)])⟩
def alc:KT:=bc ct.tab [.tmp 2] [(.slice ac)]
def agC (fuel lo:Nat) (p:List Nat):Sg→KT→Option AV:=xc (aD fi0 hs0 fuel 0) agB lo fuel (sub ((Tryz.f55.body).getD .skip) p)
def Bs (fuel n:Nat):tm AV:=fun l out i=>aB 0 JH (agC fuel 0 [1,1,0,1,0,0]) (ai 0 (aw 0 none (agC fuel 0 [1,1,1]) alc)) n ⟨mkE 26 [(0,.val (.slice ac) l),(3,.own 0 0 ac out),(4,.val aa i)],mkH 1 [(0,.row ac 86 0)]⟩
theorem aeu (fuel n3:Nat):Bs fuel (n3+1)=Rp true (sm bL) (Bs fuel n3):=by kernel_rfl
theorem aev : ∀ n,Bs FU n=mp3 bL (T8 n):=bo (by kernel_rfl) fun n3 _ h=>(aeu FU n3).trans (by rw [h]; funext _ _ _; simp only [Rp,JI,ss])
theorem alb:ar Tryz.prog 55 (agA):=evX Tryz.func55 (S:=agB) bf (ah trivial) (tys:=[(.slice ac)]) (fun fuel x=>aaZ true (sm bL) (Bs fuel fuel) x.1) (fun x=>by show _=Option.map bL _; rw [aev FU]; simp only [aaZ,Rq,JI,ss])
def aaY (m:Bool) {β:Type} (K:Int→Option β) (kind:Int):Option β:=(bif (decide (kind=1)) then (K 1) else (bif (decide (kind=2)) then (K 2) else (bif (decide (kind=3)) then (K 3) else (bif (decide (kind=4)) then (K 4) else (K 5)))))
def Ro (kind:Int):Option Int:=aaY false some kind
def agz:Ent:=evE (.cons aa .unit) ax (zero aa) (fun x=>Ro x.1)
theorem ala:ar Tryz.prog 102 (agz):=evX Tryz.func102 (S:=uL) bf (ah trivial) (tys:=[aa]) (fun fuel x=>aaY true (sm ax) x.1) (fun x=>by show _=Option.map ax _; simp only [aaY,Ro,ss])
abbrev aer (β:Type):=Int→Tree→Bool→Option β
def T7 (m:Bool) {β:Type} (K:bm.den→Option β):TX β:=fun i=>(K ((w64 (i+1)),(0:Int),()))
def JF (m:Bool) {β:Type} (K:bm.den→Option β):aer β:=fun i t t12=>(bif t12 then (K ((0:Int),(il t.kids),())) else (bif (decide (t.kind=2)) then (bif (decide (i<(w64 ((il t.kids)-2)))) then (K ((0:Int),(w64 ((il t.kids)-2)),())) else (K ((w64 (i-(w64 ((il t.kids)-3)))),(w64 ((il t.kids)-2)),()))) else (T7 m K i)))
def aaV (m:Bool) {β:Type} (K:bm.den→Option β) (t:Tree) (i:Int):Option β:=(bif (decide (t.kind=1)) then (fz m .bool (decide (t.kind=1)) fun y2_=>(JF m K i t y2_)) else (bif (decide (t.kind=16)) then (fz m .bool (decide (t.kind=16)) fun y2_=>(JF m K i t y2_)) else (fz m .bool (decide (t.kind=18)) fun y2_=>(JF m K i t y2_))))
def JG (t:Tree) (i:Int):Option bm.den:=aaV false some t i
def aaX:Ent:=evE (.cons .tree (.cons aa .unit)) d9 (zero bm) (fun x=>JG x.1 x.2.1)
def aes:MS:=⟨0,[],[(1,.dat aa),(6,.dat aa),(11,.dat aa),(12,.dat .bool)]⟩
def aaW:MS:=⟨0,[],[(1,.dat aa)]⟩
def ak9:Par:=⟨ct.tab,(ay []),(fun _=>ao [(6,aes),(11,aaW)]),(fun _=>ao [])⟩
theorem agy:ar Tryz.prog 52 (aaX):=evX Tryz.func52 (S:=ak9) bf (ah trivial) (tys:=[aa,aa]) (fun fuel x=>aaV true (sm d9) x.1 x.2.1) (fun x=>by show _=Option.map d9 _; simp only [aaV,JG,T7,JF,ss])
def aaU (m:Bool) {β:Type} (K:Int→Option β) (p:(List Tree)) (ids:(List (List Int))) (t2:Int) (t3:Int):Option β:=(ck (bd t2 ids.length) (ck (bd t2 p.length) (cl m aa (Dx (ix .tree p t2) [t3]) fun r1=>(ck (bd r1 (ix (.slice aa) ids t2).length) (K (ix aa (ix (.slice aa) ids t2) r1))))))
def Rn (p:(List Tree)) (ids:(List (List Int))) (t2:Int) (t3:Int):Option Int:=aaU false some p ids t2 t3
def agx:Ent:=evE (.cons (.slice .tree) (.cons (.slice (.slice aa)) (.cons aa (.cons aa .unit)))) ax (zero aa) (fun x=>Rn x.1 x.2.1 x.2.2.1 x.2.2.2.1)
def ak8:Par:=⟨ct.tab,(ay [(101,ad4)]),(fun _=>ao []),(fun _=>ao [])⟩
theorem ak7:ar Tryz.prog 126 (agx):=evX Tryz.func126 (S:=ak8) bf (ah ⟨ahO,trivial⟩) (tys:=[aa]) (fun fuel x=>aaU true (sm ax) x.1 x.2.1 x.2.2.1 x.2.2.2.1) (fun x=>by show _=Option.map ax _; simp only [aaU,Rn,ss])
def Rm (m:Bool) {β:Type} (K:Bool→Option β) (k_l2:fO β):fO β:=fun s i=>(bif (decide (i<(il s))) then (ck (bd i s.length) (bif (decide ((ixs s i)=46)) then (K true) else (fz m aa (w64 (i+1)) fun y1_=>(k_l2 s y1_)))) else (K false))
def aaT (m:Bool) {β:Type} (K:Bool→Option β) (k_l2:fO β) (s:Str):Option β:=(k_l2 s 0)
def T6:Nat→fO Bool:=lp (fun _ _=>none) fun k_l2=>Rm false some k_l2
def JE (s:Str):Option Bool:=aaT false some (T6 FU) s
def agv:Ent:=evE (.cons .str .unit) af (zero .bool) (fun x=>JE x.1)
def agw (fuel lo:Nat) (p:List Nat):Sg→KT→Option AV:=xc (aD fi0 hs0 fuel 0) ad0 lo fuel (sub ((Tryz.f127.body).getD .skip) p)
def Br (fuel n:Nat):fO AV:=fun s i=>aB 0 Dt (agw fuel 0 [1,0,1,0,0]) (ai 0 (aw 0 none (agw fuel 0 [1,1]) Wm)) n ⟨mkE 14 [(0,.val .str s),(3,.val aa i)],mkH 0 []⟩
theorem aep (fuel n2:Nat):Br fuel (n2+1)=Rm true (sm af) (Br fuel n2):=by kernel_rfl
theorem aeq : ∀ n,Br FU n=mp2 af (T6 n):=bo (by kernel_rfl) fun n2 _ h=>(aep FU n2).trans (by rw [h]; funext _ _; simp only [Rm,ss])
theorem ak6:ar Tryz.prog 127 (agv):=evX Tryz.func127 (S:=ad0) bf (ah trivial) (tys:=[.bool]) (fun fuel x=>aaT true (sm af) (Br fuel fuel) x.1) (fun x=>by show _=Option.map af _; rw [aeq FU]; simp only [aaT,JE,ss])
abbrev aaP (β:Type):=Int→Bool→Str→Int→Option β
abbrev aaQ (β:Type):=(List Tree)→(List (List Int))→Int→(List Int)→(Ty.den (.cons .tree (.cons .bool .unit)))→Bool→Option β
def mX (m:Bool) {β:Type} (K:ap.den→Option β):aaP β:=fun b18_0 b18_1 b18_2 b18_3=>(K (b18_0,b18_1,b18_2,b18_3,()))
def am1 (x0:Str):Bool:=(JE x0).isSome
def am2 (x0:Str):Bool:=(JE x0).getD (zero .bool)
def JD (m:Bool) {β:Type} (K:ap.den→Option β):aaQ β:=fun p ids t2 path r1 t81=>(bif t81 then (cl m (.cons aa (.cons aa (.cons .bool .unit))) (TP p t2 (r1.1.text)) fun r4=>(bif r4.2.2.1 then (cl m aa (Rn p ids (r4.1) (r4.2.1)) fun r5=>(nq m [2] (decide (r4.1=t2)) (nm m 1 (decide (r4.1=t2)) (am1 (r1.1.text)) (nq m [1] (decide (r4.1=t2)) (fz m aa (r1.1.kind) fun y0_=>(fz m .bool (bif (decide (r4.1=t2)) then (am2 (r1.1.text)) else false) fun y1_=>(mX m K y0_ y1_ [] r5))))))) else (fz m aa (r1.1.kind) fun y0_=>(fz m .str (r1.1.text) fun y2_=>(mX m K y0_ false y2_ 0))))) else (bif (decide (r1.1.kind=17)) then (ck (bd t2 p.length) (ck (decide (0≤(w64 ((il path)-1)))&&decide ((w64 ((il path)-1))≤(path.length:Int))) (cl m (.cons .tree (.cons .bool .unit)) (ui (ix .tree p t2) ((List.take (Int.toNat (w64 ((il path)-1))) path).drop 0)) fun r6=>(ck (bd (w64 ((il path)-1)) path.length) (cl m (.cons aa (.cons aa (.cons .bool .unit))) (TP p t2 (r6.1.text)) fun r7=>(nm m 2 (r7.2.2.1) (bd (r7.1) p.length) (nq m [2,2] (r7.2.2.1) (nm m 2 (r7.2.2.1) (bd (r7.2.1) ((ix .tree p r7.1).kids).length) (nq m [2,2,2,2,3,1] (r7.2.2.1) (bif (bif r7.2.2.1 then (decide ((ix aa path (w64 ((il path)-1)))<(w64 ((il ((ix .tree (ix .tree p r7.1).kids r7.2.1).kids))-2)))) else false) then (ck (bd (r7.1) ids.length) (ck (bd (r7.1) p.length) (cl m aa (Dx (ix .tree p r7.1) [r7.2.1,(ix aa path (w64 ((il path)-1)))]) fun r8=>(ck (bd r8 (ix (.slice aa) ids r7.1).length) (fz m aa (r1.1.kind) fun y0_=>(fz m .str (r1.1.text) fun y2_=>(fz m aa (ix aa (ix (.slice aa) ids r7.1) r8) fun y3_=>(mX m K y0_ false y2_ y3_)))))))) else (fz m aa (r1.1.kind) fun y0_=>(fz m .str (r1.1.text) fun y2_=>(mX m K y0_ false y2_ 0))))))))))))) else (fz m aa (r1.1.kind) fun y0_=>(fz m .str (r1.1.text) fun y2_=>(mX m K y0_ false y2_ 0)))))
def aaO (m:Bool) {β:Type} (K:ap.den→Option β) (p:(List Tree)) (ids:(List (List Int))) (t2:Int) (path:(List Int)):Option β:=(ck (bd t2 p.length) (cl m (.cons .tree (.cons .bool .unit)) (ui (ix .tree p t2) path) fun r1=>(bif (decide (r1.1.kind=12)) then (ck (bd t2 p.length) (ck (bd 0 path.length) (ck (bd (ix aa path 0) ((ix .tree p t2).kids).length) (ck (decide (0≤(1:Int))&&decide (1≤(path.length:Int))) (cl m (.cons (.slice aa) (.cons .bool .unit)) (Zy (ix .tree (ix .tree p t2).kids (ix aa path 0)) ((List.take (List.length path) path).drop (Int.toNat 1)) (r1.1.text)) fun r2=>(bif r2.2.1 then (ck (bd 0 path.length) (ck (lm (List.length ([(ix aa path 0)]:List Int)+List.length r2.1)) (ck (bd t2 ids.length) (ck (bd t2 p.length) (cl m aa (Dx (ix .tree p t2) ([(ix aa path 0)]++r2.1)) fun r3=>(ck (bd r3 (ix (.slice aa) ids t2).length) (fz m aa (r1.1.kind) fun y0_=>(fz m aa (ix aa (ix (.slice aa) ids t2) r3) fun y3_=>(mX m K y0_ false [] y3_))))))))) else (fz m aa (r1.1.kind) fun y0_=>(fz m .str (r1.1.text) fun y2_=>(mX m K y0_ false y2_ 0))))))))) else (bif (decide (r1.1.kind=16)) then (fz m .bool (decide (r1.1.kind=16)) fun y5_=>(JD m K p ids t2 path r1 y5_)) else (fz m .bool (decide (r1.1.kind=9)) fun y5_=>(JD m K p ids t2 path r1 y5_))))))
def Rl (p:(List Tree)) (ids:(List (List Int))) (t2:Int) (path:(List Int)):Option ap.den:=aaO false some p ids t2 path
def i9 (r:ap.den):AV := .val ap r
def agu:Ent:=evE (.cons (.slice .tree) (.cons (.slice (.slice aa)) (.cons aa (.cons (.slice aa) .unit)))) i9 (zero ap) (fun x=>Rl x.1 x.2.1 x.2.2.1 x.2.2.2.1)
def aaR:MS:=⟨19,[(0,[.dat aa,.dat .bool,.dat .str,.dat aa]),(10,[.drop,.drop,.drop,.drop]),(18,[.dat aa,.dat .bool,.dat .str,.dat aa])],[(8,.keep),(11,.keep)]⟩
def aaS:MS:=⟨19,[(0,[.dat aa,.dat .bool,.dat .str,.dat aa]),(10,[.dat aa,.dat .str,.dat (.slice .str),.dat (.slice .tree)]),(18,[.dat aa,.dat .bool,.dat .str,.dat aa])],[(0,.dat (.slice .tree)),(1,.dat (.slice (.slice aa))),(2,.dat aa),(3,.dat (.slice aa)),(8,.keep),(9,.keep),(11,.keep),(39,.dat aa),(81,.dat .bool)]⟩
def ak5:Par:=⟨ct.tab,(ay [(51,Wl),(124,akg),(101,ad4),(125,akb),(126,agx),(127,agv)]),(fun _=>ao [(20,aaR),(11,aaS)]),(fun _=>ao [])⟩
theorem ak4:ar Tryz.prog 103 (agu):=evX Tryz.func103 (S:=ak5) bf (ah ⟨ZJ,amm,ahO,amk,ak7,ak6,trivial⟩) (tys:=[ap]) (fun fuel x=>aaO true (sm i9) x.1 x.2.1 x.2.2.1 x.2.2.2.1) (fun x=>by show _=Option.map i9 _; simp only [aaO,Rl,JD,mX,ss])
abbrev aaH (β:Type):=(List Tree)→(List (List Int))→Int→(List Int)→Int→Int→(Ty.den (.cons .tree (.cons .bool .unit)))→(List ac.den)→Option β
abbrev aaI (β:Type):=(List Tree)→(List (List Int))→Int→(List Int)→Int→Int→(Ty.den (.cons .tree (.cons .bool .unit)))→Int→Bool→Str→Int→Option β
abbrev aaG (β:Type):=(List (List Int))→Int→Int→(Ty.den (.cons .tree (.cons .bool .unit)))→(List ac.den)→Option β
abbrev i8 (β:Type):=(List (List Int))→Int→Int→(Ty.den (.cons .tree (.cons .bool .unit)))→(List ac.den)→Int→Option β
def Bo (m:Bool) {β:Type} (K:bD→Option β) (k_l18:i8 β):aaG β:=fun ids t2 r2 r1 l=>(k_l18 ids t2 r2 r1 l 0)
def Bp (m:Bool) {β:Type} (K:bD→Option β) (k_l18:i8 β):aaH β:=fun p ids t2 path r2 r3 r1 l=>(bif (decide (r3=5)) then (cl m ap (Rl p ids t2 path) fun r7=>(ck (lm (List.length l+List.length ([((ix aa (ix (.slice aa) ids t2) r2),4,r7,())]:List ac.den))) (fz m (.slice ac) (l++[((ix aa (ix (.slice aa) ids t2) r2),4,r7,())]) fun y4_=>(Bo m K k_l18 ids t2 r2 r1 y4_)))) else (ck (lm (List.length l+List.length ([((ix aa (ix (.slice aa) ids t2) r2),3,(0,false,r1.1.text,0,()),())]:List ac.den))) (fz m (.slice ac) (l++[((ix aa (ix (.slice aa) ids t2) r2),3,(0,false,r1.1.text,0,()),())]) fun y4_=>(Bo m K k_l18 ids t2 r2 r1 y4_))))
def Bq (m:Bool) {β:Type} (K:bD→Option β) (k_l18:i8 β):aaI β:=fun p ids t2 path r2 r3 r1 b83_0 b83_1 b83_2 b83_3=>(ck (lm (List.length ([((ix aa (ix (.slice aa) ids t2) r2),1,(r3,false,[],0,()),())]:List ac.den)+List.length ([((ix aa (ix (.slice aa) ids t2) r2),2,(b83_0,b83_1,b83_2,b83_3,()),())]:List ac.den))) (fz m (.slice ac) ([((ix aa (ix (.slice aa) ids t2) r2),1,(r3,false,[],0,()),())]++[((ix aa (ix (.slice aa) ids t2) r2),2,(b83_0,b83_1,b83_2,b83_3,()),())]) fun y7_=>(Bp m K k_l18 p ids t2 path r2 r3 r1 y7_)))
def JC (m:Bool) {β:Type} (K:bD→Option β) (k_l18:i8 β):i8 β:=fun ids t2 r2 r1 l t22=>(bif (decide (t22<(il r1.1.leads))) then (ck (bd t22 r1.1.leads.length) (ck (lm (List.length l+List.length ([((ix aa (ix (.slice aa) ids t2) r2),(w64 ((8:Int)+t22)),(0,false,(ix .str r1.1.leads t22),0,()),())]:List ac.den))) (fz m (.slice ac) (l++[((ix aa (ix (.slice aa) ids t2) r2),(w64 ((8:Int)+t22)),(0,false,(ix .str r1.1.leads t22),0,()),())]) fun y4_=>(fz m aa (w64 (t22+1)) fun y5_=>(k_l18 ids t2 r2 r1 y4_ y5_))))) else (K l))
def aaF (m:Bool) {β:Type} (K:bD→Option β) (k_l18:i8 β) (p:(List Tree)) (ids:(List (List Int))) (t2:Int) (path:(List Int)) (key:Str):Option β:=(ck (bd t2 p.length) (cl m (.cons .tree (.cons .bool .unit)) (ui (ix .tree p t2) path) fun r1=>(ck (bd t2 ids.length) (ck (bd t2 p.length) (cl m aa (Dx (ix .tree p t2) path) fun r2=>(ck (bd r2 (ix (.slice aa) ids t2).length) (cl m aa (Ro (r1.1.kind)) fun r3=>(bif (decide (r3=1)) then (ck (lm (List.length ([((ix aa (ix (.slice aa) ids t2) r2),1,(r3,false,[],0,()),())]:List ac.den)+List.length ([((ix aa (ix (.slice aa) ids t2) r2),2,(1,false,[],0,()),())]:List ac.den))) (fz m (.slice ac) ([((ix aa (ix (.slice aa) ids t2) r2),1,(r3,false,[],0,()),())]++[((ix aa (ix (.slice aa) ids t2) r2),2,(1,false,[],0,()),())]) fun y7_=>(Bp m K k_l18 p ids t2 path r2 r3 r1 y7_))) else (ck (decide (0≤(w64 ((il path)-1)))&&decide ((w64 ((il path)-1))≤(path.length:Int))) (ck (bd t2 p.length) (cl m (.cons .tree (.cons .bool .unit)) (ui (ix .tree p t2) ((List.take (Int.toNat (w64 ((il path)-1))) path).drop 0)) fun r4=>(ck (bd (w64 ((il path)-1)) path.length) (cl m bm (JG (te (r4.1)) (ix aa path (w64 ((il path)-1)))) fun r5=>(ck (bd t2 ids.length) (ck (bd t2 p.length) (cl m aa (Dx (ix .tree p t2) ((List.take (Int.toNat (w64 ((il path)-1))) path).drop 0)) fun r6=>(ck (bd r6 (ix (.slice aa) ids t2).length) (bif (decide (r5.1=0)) then (fz m aa (ix aa (ix (.slice aa) ids t2) r6) fun y10_=>(Bq m K k_l18 p ids t2 path r2 r3 r1 (r5.1) false key y10_)) else (fz m aa (ix aa (ix (.slice aa) ids t2) r6) fun y10_=>(Bq m K k_l18 p ids t2 path r2 r3 r1 (r5.1) false [] y10_))))))))))))))))))))
def NV:Nat→i8 bD:=lp (fun _ _ _ _ _ _=>none) fun k_l18=>JC false some k_l18
def Rk (p:(List Tree)) (ids:(List (List Int))) (t2:Int) (path:(List Int)) (key:Str):Option bD:=aaF false some (NV FU) p ids t2 path key
def agr:Ent:=evE (.cons (.slice .tree) (.cons (.slice (.slice aa)) (.cons aa (.cons (.slice aa) (.cons .str .unit))))) bL (zero (.slice ac)) (fun x=>Rk x.1 x.2.1 x.2.2.1 x.2.2.2.1 x.2.2.2.2.1)
def NU:MS:=⟨11,[(10,[.dat aa,.dat .str,.dat (.slice .str),.dat (.slice .tree)])],[(11,.keep),(13,.dat aa),(15,.own ac 86),(22,.dat aa)]⟩
def aaK:MS:=⟨11,[(10,[.dat aa,.dat .str,.dat (.slice .str),.dat (.slice .tree)])],[(0,.dat (.slice .tree)),(1,.dat (.slice (.slice aa))),(2,.dat aa),(3,.dat (.slice aa)),(11,.keep),(13,.dat aa),(14,.dat aa),(15,.own ac 86)]⟩
def aaL:MS:=⟨84,[(10,[.dat aa,.dat .str,.dat (.slice .str),.dat (.slice .tree)]),(53,[.drop,.drop,.drop,.drop]),(83,[.dat aa,.dat .bool,.dat .str,.dat aa])],[(0,.dat (.slice .tree)),(1,.dat (.slice (.slice aa))),(2,.dat aa),(3,.dat (.slice aa)),(11,.keep),(13,.dat aa),(14,.dat aa),(15,.own ac 86),(21,.keep)]⟩
def aaJ:MS:=⟨11,[(10,[.dat aa,.dat .str,.dat (.slice .str),.dat (.slice .tree)])],[(11,.keep),(13,.dat aa),(15,.own ac 86)]⟩
def ags:Par:=⟨ct.tab,(ay [(51,Wl),(101,ad4),(102,agz),(52,aaX),(103,agu)]),(fun _=>ao [(14,aaK),(13,aaL),(17,aaJ)]),(fun _=>ao [(18,NU)])⟩
def ak3:KT:=bc ct.tab [.tmp 10] [(.slice ac)]
def agt (fuel lo:Nat) (p:List Nat):Sg→KT→Option AV:=xc (aD fi0 hs0 fuel 0) ags lo fuel (sub ((Tryz.f54.body).getD .skip) p)
def xr (fuel n:Nat):i8 AV:=fun ids t2 r2 r1 l t22=>aB 0 NU (agt fuel 0 [1,1,1,1,1,1,1,0,1,0,0]) (ai 0 (aw 0 none (agt fuel 0 [1,1,1,1,1,1,1,1]) ak3)) n ⟨mkE 150 [(11,.box 10 0),(13,.val aa (ix aa (ix (.slice aa) ids t2) r2)),(15,.own 11 0 ac l),(22,.val aa t22)],mkH 12 [(10,.box [.val aa r1.1.kind,.val .str r1.1.text,.val (.slice .str) r1.1.leads,.val (.slice .tree) r1.1.kids]),(11,.row ac 86 0)]⟩
theorem aaM (fuel n18:Nat):xr fuel (n18+1)=JC true (sm bL) (xr fuel n18):=by kernel_rfl
theorem aaN : ∀ n,xr FU n=mp6 bL (NV n):=bo (by kernel_rfl) fun n18 _ h=>(aaM FU n18).trans (by rw [h]; funext _ _ _ _ _ _; simp only [JC,Bq,Bp,Bo,ss])
theorem ak2:ar Tryz.prog 54 (agr):=evX Tryz.func54 (S:=ags) bf (ah ⟨ZJ,ahO,ala,agy,ak4,trivial⟩) (tys:=[(.slice ac)]) (fun fuel x=>aaF true (sm bL) (xr fuel fuel) x.1 x.2.1 x.2.2.1 x.2.2.2.1 x.2.2.2.2.1) (fun x=>by show _=Option.map bL _; rw [aaN FU]; simp only [aaF,Rk,Bq,Bp,Bo,ss])
abbrev xq (β:Type):=(List Tree)→Int→Option β
def gmG (x0:Tree):Bool:=(TS x0).isSome
def gmF (x0:Tree):Bool:=(TS x0).getD (zero .bool)
def Ri (m:Bool) {β:Type} (K:Bool→Option β) (k_l2:xq β):xq β:=fun p i=>(bif (decide (i<(il p))) then (ck (bd i p.length) (nm m 2 (!(!decide ((ix .tree p i).kind=1))) (bd i p.length) (nq m [2] (!(!decide ((ix .tree p i).kind=1))) (nm m 1 (!(!decide ((ix .tree p i).kind=1))) (gmG (ix .tree p i)) (nq m [2,0] (!(!decide ((ix .tree p i).kind=1))) (bif (bif (!decide ((ix .tree p i).kind=1)) then true else (!(gmF (ix .tree p i)))) then (K false) else (fz m aa (w64 (i+1)) fun y1_=>(k_l2 p y1_)))))))) else (K (decide ((il p)≤8))))
def aaE (m:Bool) {β:Type} (K:Bool→Option β) (k_l2:xq β) (p:(List Tree)):Option β:=(k_l2 p 0)
def T5:Nat→xq Bool:=lp (fun _ _=>none) fun k_l2=>Ri false some k_l2
def Rj (p:(List Tree)):Option Bool:=aaE false some (T5 FU) p
def ago:Ent:=evE (.cons (.slice .tree) .unit) af (zero .bool) (fun x=>Rj x.1)
def T4:MS:=⟨0,[],[(0,.dat (.slice .tree)),(3,.dat aa)]⟩
def agp:Par:=⟨ct.tab,(ay [(99,akx)]),(fun _=>ao []),(fun _=>ao [(2,T4)])⟩
def agq (fuel lo:Nat) (p:List Nat):Sg→KT→Option AV:=xc (aD fi0 hs0 fuel 0) agp lo fuel (sub ((Tryz.f47.body).getD .skip) p)
def Bn (fuel n:Nat):xq AV:=fun p i=>aB 0 T4 (agq fuel 0 [1,0,1,0,0]) (ai 0 (aw 0 none (agq fuel 0 [1,1]) Wm)) n ⟨mkE 27 [(0,.val (.slice .tree) p),(3,.val aa i)],mkH 0 []⟩
theorem aen (fuel n2:Nat):Bn fuel (n2+1)=Ri true (sm af) (Bn fuel n2):=by kernel_rfl
theorem aeo : ∀ n,Bn FU n=mp2 af (T5 n):=bo (by kernel_rfl) fun n2 _ h=>(aen FU n2).trans (by rw [h]; funext _ _; simp only [Ri,ss])
theorem ak1:ar Tryz.prog 47 (ago):=evX Tryz.func47 (S:=agp) bf (ah ⟨amy,trivial⟩) (tys:=[.bool]) (fun fuel x=>aaE true (sm af) (Bn fuel fuel) x.1) (fun x=>by show _=Option.map af _; rw [aeo FU]; simp only [aaE,Rj,ss])
abbrev i7:=(Ty.den (.cons aM (.cons aa (.cons aa .unit))))
abbrev p0 (β:Type):=(List Tree)→Int→(List (List Int))→Int→Int→Option β
abbrev rl (β:Type):=(List Tree)→Int→(List (List Int))→Int→Int→(List Int)→Int→Option β
abbrev lG (β:Type):=(List Tree)→Int→(List (List Int))→Int→(List ac.den)→Int→Option β
abbrev lF (β:Type):=(List Tree)→Int→(List (List Int))→Int→Int→(List (List Int))→(List ac.den)→Int→Option β
abbrev aav (β:Type):=(List Tree)→Int→(List (List Int))→Int→(List ac.den)→Int→(List (List Int))→Int→Str→Option β
abbrev aaw (β:Type):=(List Tree)→Int→(List (List Int))→Int→Int→(List (List Int))→Int→(List ac.den)→Option β
def Rg (m:Bool) {β:Type} (K:i7→Option β) (k_l10:rl β) (k_l20:lG β):p0 β:=fun p last ids t8 i=>(bif (decide (i<(il p))) then (ck (bd i p.length) (cl m aa (z8 FD (ix .tree p i)) fun r2=>(k_l10 p last ids i t8 [] r2))) else (k_l20 p last ids t8 [] 0))
def JB (m:Bool) {β:Type} (K:i7→Option β) (k_l10:rl β) (k_l6:p0 β):rl β:=fun p last ids i t8 l t11=>(bif (decide (t11>0)) then (cl m bm (pF last (w64 (t8+1))) fun r3=>(bif (!decide (r3.2.1=0)) then (K (([],()),(0:Int),r3.2.1,())) else (ck (lm (List.length l+List.length ([r3.1]:List Int))) (fz m aa (w64 (t8+1)) fun y4_=>(fz m (.slice aa) (l++[r3.1]) fun y5_=>(fz m aa (w64 (t11-1)) fun y6_=>(k_l10 p last ids i y4_ y5_ y6_))))))) else (ck (lm (List.length ids+List.length ([l]:List (List Int)))) (fz m (.slice (.slice aa)) (ids++[l]) fun y2_=>(fz m aa (w64 (i+1)) fun y4_=>(k_l6 p last y2_ t8 y4_)))))
def JA (m:Bool) {β:Type} (K:i7→Option β) (k_l24:lF β):lG β:=fun p last ids t8 cells i=>(bif (decide (i<(il p))) then (ck (bd i p.length) (cl m (.slice (.slice aa)) (ZP (ix .tree p i)) fun r4=>(k_l24 p last ids t8 i r4 cells 0))) else (cl m (.slice ac) (Rq cells) fun r5=>(K ((r5,()),(w64 (last+t8)),(0:Int),()))))
def tl (m:Bool) {β:Type} (K:i7→Option β) (k_l24:lF β):aaw β:=fun p last ids t8 i r4 t17 cells=>(fz m aa (w64 (t17+1)) fun y7_=>(k_l24 p last ids t8 i r4 cells y7_))
def mW (m:Bool) {β:Type} (K:i7→Option β) (k_l24:lF β):aav β:=fun p last ids t8 cells i r4 t17 key=>(ck (bd t17 r4.length) (cl m (.slice ac) (Rk p ids i (ix (.slice aa) r4 t17) key) fun r9=>(ck (lm (cells.length+r9.length)) (fz m (.slice ac) (cells++r9) fun y7_=>(tl m K k_l24 p last ids t8 i r4 t17 y7_)))))
def Jz (m:Bool) {β:Type} (K:i7→Option β) (k_l24:lF β) (k_l20:lG β):lF β:=fun p last ids t8 i r4 cells t17=>(bif (decide (t17<(il r4))) then (ck (bd t17 r4.length) (bif (decide ((il (ix (.slice aa) r4 t17))>0)) then (ck (bd t17 r4.length) (ck (bd t17 r4.length) (ck (bd (w64 ((il (ix (.slice aa) r4 t17))-1)) (ix (.slice aa) r4 t17).length) (ck (bd i p.length) (ck (bd t17 r4.length) (ck (bd t17 r4.length) (ck (decide (0≤(w64 ((il (ix (.slice aa) r4 t17))-1)))&&decide ((w64 ((il (ix (.slice aa) r4 t17))-1))≤((ix (.slice aa) r4 t17).length:Int))) (cl m (.cons .tree (.cons .bool .unit)) (ui (ix .tree p i) ((List.take (Int.toNat (w64 ((il (ix (.slice aa) r4 t17))-1))) (ix (.slice aa) r4 t17)).drop 0)) fun r6=>(cl m bm (JG (te (r6.1)) (ix aa (ix (.slice aa) r4 t17) (w64 ((il (ix (.slice aa) r4 t17))-1)))) fun r7=>(bif (decide (r7.1=0)) then (cl m (.slice .str) (Zl (r7.2.1)) fun r8=>(ck (bd (ix aa (ix (.slice aa) r4 t17) (w64 ((il (ix (.slice aa) r4 t17))-1))) r8.length) (fz m .str (ix .str r8 (ix aa (ix (.slice aa) r4 t17) (w64 ((il (ix (.slice aa) r4 t17))-1)))) fun y8_=>(mW m K k_l24 p last ids t8 cells i r4 t17 y8_)))) else (mW m K k_l24 p last ids t8 cells i r4 t17 []))))))))))) else (mW m K k_l24 p last ids t8 cells i r4 t17 []))) else (fz m aa (w64 (i+1)) fun y5_=>(k_l20 p last ids t8 cells y5_)))
def acY (x0:Int):Bool:=(nU x0).isSome
def acZ (x0:Int):Bool:=(nU x0).getD (zero .bool)
def aau (m:Bool) {β:Type} (K:i7→Option β) (k_l6:p0 β) (p:(List Tree)) (last:Int):Option β:=(cl m .bool (Rj p) fun r1=>(nm m 1 (!(!r1)) (acY last) (nq m [2,0] (!(!r1)) (bif (bif (!r1) then true else (!(acZ last))) then (K (([],()),(0:Int),(5:Int),())) else (k_l6 p last [] 0 0)))))
def NT (k_l6:p0 i7):Nat→rl i7:=lp (fun _ _ _ _ _ _ _=>none) fun k_l10=>JB false some k_l10 k_l6
def NR (k_l20:lG i7):Nat→lF i7:=lp (fun _ _ _ _ _ _ _ _=>none) fun k_l24=>Jz false some k_l24 k_l20
def NS:Nat→lG i7:=lp (fun _ _ _ _ _ _=>none) fun k_l20=>JA false some (NR k_l20 FU)
def T2:Nat→p0 i7:=lp (fun _ _ _ _ _=>none) fun k_l6=>Rg false some (NT k_l6 FU) (NS FU)
def Rh (p:(List Tree)) (last:Int):Option i7:=aau false some (T2 FU) p last
def oM (r:i7):AV := .tup (br [.val aM r.1,.val aa r.2.1,.val aa r.2.2.1])
def agm:Ent:=evE (.cons (.slice .tree) (.cons aa .unit)) oM (zero (.cons aM (.cons aa (.cons aa .unit)))) (fun x=>Rh x.1 x.2.1)
def Jy:MS:=⟨1,[(0,[.own ac 86])],[(0,.dat (.slice .tree)),(1,.dat aa),(4,.keep),(7,.own (.slice aa) 23),(8,.dat aa),(9,.dat aa)]⟩
def NQ:MS:=⟨1,[(0,[.own ac 86])],[(0,.dat (.slice .tree)),(1,.dat aa),(4,.keep),(7,.own (.slice aa) 23),(8,.dat aa),(9,.dat aa),(10,.own aa 3),(11,.dat aa)]⟩
def DO:MS:=⟨1,[(0,[.own ac 86])],[(0,.dat (.slice .tree)),(1,.dat aa),(4,.keep),(7,.own (.slice aa) 23),(8,.dat aa),(14,.own ac 86),(15,.dat aa)]⟩
def DN:MS:=⟨1,[(0,[.own ac 86])],[(0,.dat (.slice .tree)),(1,.dat aa),(4,.keep),(7,.own (.slice aa) 23),(8,.dat aa),(14,.own ac 86),(15,.dat aa),(16,.dat (.slice (.slice aa))),(17,.dat aa)]⟩
def aax:MS:=⟨1,[(0,[.own ac 86])],[(0,.dat (.slice .tree)),(1,.dat aa),(4,.keep),(7,.own (.slice aa) 23),(8,.dat aa),(14,.own ac 86),(15,.dat aa),(16,.dat (.slice (.slice aa))),(17,.dat aa),(18,.dat .str)]⟩
def agn:Par:=⟨ct.tab,(ay [(47,ago),(48,Ca),(49,ZW FD),(24,yv),(50,akq),(55,agA),(51,Wl),(52,aaX),(53,aj8),(54,agr)]),(fun _=>ao [(33,aax),(25,DN)]),(fun _=>ao [(6,Jy),(10,NQ),(20,DO),(24,DN)])⟩
def T3:KT:=bc ct.tab [.cell 4 48,.tmp 5,.tmp 6] [aM,aa,aa]
def oN (fuel lo:Nat) (p:List Nat):Sg→KT→Option AV:=xc (aD fi0 hs0 fuel 0) agn lo fuel (sub ((Tryz.f22.body).getD .skip) p)
def xn (fuel n:Nat):p0 AV:=fun p last ids t8 i=>aB 0 Jy (oN fuel 0 [1,1,1,1,0,1,0,0]) (ai 0 (aw 0 none (oN fuel 0 [1,1,1,1,1]) T3)) n ⟨mkE 152 [(0,.val (.slice .tree) p),(1,.val aa last),(4,.box 0 0),(7,.own 2 0 (.slice aa) ids),(8,.val aa t8),(9,.val aa i)],mkH 3 [(0,.box [.own 1 0 ac []]),(1,.row ac 86 0),(2,.row (.slice aa) 23 0)]⟩
def xp (fuel n6 n:Nat):rl AV:=fun p last ids i t8 l t11=>aB 0 NQ (oN fuel 0 [1,1,1,1,0,1,0,0,1,0,0,1,0,1,0,0]) (ai 2 (aw 0 none (oN fuel 0 [1,1,1,1,0,1,0,0,1,0,0,1,1]) (ai 1 (aw 0 none (oN fuel 0 [1,1,1,1,0,1,0,0,1,1]) (kLp 0 Jy (oN fuel 0 [1,1,1,1,0,1,0,0]) (ai 0 (aw 0 none (oN fuel 0 [1,1,1,1,1]) T3)) n6))))) n ⟨mkE 152 [(0,.val (.slice .tree) p),(1,.val aa last),(4,.box 0 0),(7,.own 2 0 (.slice aa) ids),(8,.val aa t8),(9,.val aa i),(10,.own 3 0 aa l),(11,.val aa t11)],mkH 4 [(0,.box [.own 1 0 ac []]),(1,.row ac 86 0),(2,.row (.slice aa) 23 0),(3,.row aa 3 0)]⟩
def rm (fuel n:Nat):lG AV:=fun p last ids t8 cells i=>aB 0 DO (oN fuel 0 [1,1,1,1,1,1,0,1,0,0]) (ai 4 (aw 0 none (oN fuel 0 [1,1,1,1,1,1,1]) T3)) n ⟨mkE 152 [(0,.val (.slice .tree) p),(1,.val aa last),(4,.box 0 0),(7,.own 2 0 (.slice aa) ids),(8,.val aa t8),(14,.own 3 0 ac cells),(15,.val aa i)],mkH 4 [(0,.box [.own 1 0 ac []]),(1,.row ac 86 0),(2,.row (.slice aa) 23 0),(3,.row ac 86 0)]⟩
def xo (fuel n20 n:Nat):lF AV:=fun p last ids t8 i r4 cells t17=>aB 0 DN (oN fuel 0 [1,1,1,1,1,1,0,1,0,0,1,0,0,1,1,0,0]) (ai 6 (ai 5 (aw 0 none (oN fuel 0 [1,1,1,1,1,1,0,1,0,0,1,1]) (kLp 0 DO (oN fuel 0 [1,1,1,1,1,1,0,1,0,0]) (ai 4 (aw 0 none (oN fuel 0 [1,1,1,1,1,1,1]) T3)) n20)))) n ⟨mkE 152 [(0,.val (.slice .tree) p),(1,.val aa last),(4,.box 0 0),(7,.own 2 0 (.slice aa) ids),(8,.val aa t8),(14,.own 3 0 ac cells),(15,.val aa i),(16,.val (.slice (.slice aa)) r4),(17,.val aa t17)],mkH 4 [(0,.box [.own 1 0 ac []]),(1,.row ac 86 0),(2,.row (.slice aa) 23 0),(3,.row ac 86 0)]⟩
theorem ael (fuel n6:Nat):xn fuel (n6+1)=Rg true (sm oM) (xp fuel n6 fuel) (rm fuel fuel):=by kernel_rfl
theorem aaC (fuel n6 n10:Nat):xp fuel n6 (n10+1)=JB true (sm oM) (xp fuel n6 n10) (xn fuel n6):=by kernel_rfl
theorem aaA (fuel n20:Nat):rm fuel (n20+1)=JA true (sm oM) (xo fuel n20 fuel):=by kernel_rfl
theorem aay (fuel n20 n24:Nat):xo fuel n20 (n24+1)=Jz true (sm oM) (xo fuel n20 n24) (rm fuel n20):=by kernel_rfl
theorem aaD (n6:Nat) {k_l6:p0 i7} (h_l6:xn FU n6=mp5 oM k_l6) : ∀ n,xp FU n6 n=mp7 oM (NT k_l6 n):=bo (by kernel_rfl) fun n10 _ h=>(aaC FU n6 n10).trans (by rw [h,h_l6]; funext _ _ _ _ _ _ _; simp only [JB,tl,mW,ss])
theorem aaz (n20:Nat) {k_l20:lG i7} (h_l20:rm FU n20=mp6 oM k_l20) : ∀ n,xo FU n20 n=mp8 oM (NR k_l20 n):=bo (by kernel_rfl) fun n24 _ h=>(aay FU n20 n24).trans (by rw [h,h_l20]; funext _ _ _ _ _ _ _ _; simp only [Jz,tl,mW,ss])
theorem aaB : ∀ n,rm FU n=mp6 oM (NS n):=bo (by kernel_rfl) fun n20 _ h=>(aaA FU n20).trans (by rw [aaz n20 h FU]; funext _ _ _ _ _ _; simp only [JA,tl,mW,ss])
theorem aem : ∀ n,xn FU n=mp5 oM (T2 n):=bo (by kernel_rfl) fun n6 _ h=>(ael FU n6).trans (by rw [aaD n6 h FU,aaB FU]; funext _ _ _ _ _; simp only [Rg,tl,mW,ss])
theorem ak0:ar Tryz.prog 22 (agm):=evX Tryz.func22 (S:=agn) bf (ah ⟨ak1,LW,(akt FD),Gr,ams,alb,ZJ,agy,ami,ak2,trivial⟩) (tys:=[aM,aa,aa]) (fun fuel x=>aau true (sm oM) (xn fuel fuel) x.1 x.2.1) (fun x=>by show _=Option.map oM _; rw [aem FU]; simp only [aau,Rh,tl,mW,ss])
def xy (m:Bool) {β:Type} (K:ae.den→Option β) (x:Int):Option β:=(cl m (.slice .tree) (GO x) fun r1=>(cl m (.cons aM (.cons aa (.cons aa .unit))) (Rh r1 1048576) fun r2=>(cl m bm (pF (r2.2.1) 1) fun r3=>(K (r3.1,[],[],[102,105,114,115,116],r2.1.1,())))))
def cC (x:Int):Option ae.den:=xy false some x
def Ef (r:ae.den):AV := .val ae r
def N7:Ent:=evE (.cons aa .unit) Ef (zero ae) (fun x=>cC x.1)
def abu:Par:=⟨ct.tab,(ay [(23,akW),(22,agm),(24,yv)]),(fun _=>ao []),(fun _=>ao [])⟩
theorem abt:ar Tryz.prog 6 (N7):=evX Tryz.func6 (S:=abu) bf (ah ⟨amX,ak0,Gr,trivial⟩) (tys:=[ae]) (fun fuel x=>xy true (sm Ef) x.1) (fun x=>by show _=Option.map Ef _; simp only [xy,cC,ss])
end
end Go.Proofs.YtboikinjlmjgjaaGreat.Abs
