/- The equations of the program's functions on the abstract machine. (Printed by gen.py; each is checked by the kernel.) -/
import Derived.Test.YtboikinjlmjgjaaGreatGenB
import Derived.Test.YtboikinjlmjgjaaGreatChecked
namespace Go.Proofs.YtboikinjlmjgjaaGreat.Abs
end Go.Proofs.YtboikinjlmjgjaaGreat.Abs
namespace Go.Proofs.YtboikinjlmjgjaaGreat.Abs
end Go.Proofs.YtboikinjlmjgjaaGreat.Abs
namespace Go.Proofs.YtboikinjlmjgjaaGreat.Abs
open Go
set_option linter.unusedSimpArgs false
set_option linter.unusedVariables false
noncomputable section
def XM:TabL:={
 ty:=[(3,aa),(4,.bool),(9,.str),(23,(.slice aa)),(24,(.slice ac)),(26,ae),(35,(.slice aY)),(37,(.slice ak)),(39,au),(41,(.slice aK)),(43,aY),(51,ap),(53,aK),(58,(.slice ag)),(75,ak),(86,ac),(89,(.slice ap)),(91,ag)],
 cells:=[(3,1),(4,1),(9,1),(23,1),(24,1),(26,5),(35,1),(37,1),(39,1),(41,1),(43,5),(51,4),(53,5),(58,1),(75,3),(86,6),(89,1),(91,7)],
 offs:=[((26,0),0),((26,1),1),((26,2),2),((26,3),3),((26,4),4),((39,0),0),((43,0),0),((43,1),1),((43,2),2),((43,3),3),((43,4),4),((51,0),0),((51,1),1),((51,2),2),((51,3),3),((53,0),0),((53,1),1),((75,0),0),((75,1),1),((75,2),2),((86,0),0),((86,1),1),((86,2),2),((91,0),0),((91,1),1),((91,2),2),((91,3),3)],
 one:=[],
 elem:=[(23,3),(24,86),(35,43),(37,75),(41,53),(58,91),(89,51)] }
theorem XL:TabOk Tryz.prog XM.tab:=TabL.ok (by kernel_rfl)
abbrev ic (β:Type):=(List aY.den)→ae.den→(List ag.den)→Int→Option β
abbrev QD (β:Type):=(List aY.den)→Int→ae.den→(List ag.den)→Option β
def ox (m:Bool) {β:Type} (K:bS→Option β) (k_l4:ic β):QD β:=fun r1 i c out=>(fz m aa (w64 (i+1)) fun y3_=>(k_l4 r1 c out y3_))
def ow (m:Bool) {β:Type} (K:bS→Option β) (k_l4:ic β):ic β:=fun r1 c out i=>(bif (decide (i<(il r1))) then (ck (bd i r1.length) (ck (bd i r1.length) (cl m (.cons ap (.cons .bool .unit)) (cG (c.2.2.2.2.1) ((ix aY r1 i).2.1) ((ix aY r1 i).2.2.1)) fun r2=>(ck (bd i r1.length) (nq m [1] (decide ((ix aY r1 i).1=1)) (bif (bif (decide ((ix aY r1 i).1=1)) then r2.2.1 else false) then (ck (bd i r1.length) (ck (bd i r1.length) (ck (bd i r1.length) (ce m (.slice ap) (md ((ix aY r1 i).2.2.2.1)) (b6 ((ix aY r1 i).2.2.2.1)) fun r3=>(ck (lm (List.length out+List.length ([((ix aY r1 i).2.1,(ix aY r1 i).2.2.1,r3,r2.1,())]:List ag.den))) (fz m (.slice ag) (out++[((ix aY r1 i).2.1,(ix aY r1 i).2.2.1,r3,r2.1,())]) fun y3_=>(ox m K k_l4 r1 i c y3_))))))) else (ox m K k_l4 r1 i c out))))))) else (K out))
def wP (m:Bool) {β:Type} (K:bS→Option β) (k_l4:ic β) (s:au.den) (c:ae.den):Option β:=(cl m (.slice aY) (wc s) fun r1=>(k_l4 r1 c [] 0))
def pJ:Nat→ic bS:=lp (fun _ _ _ _=>none) fun k_l4=>ow false some k_l4
def kh (s:au.den) (c:ae.den):Option bS:=wP false some (pJ FU) s c
def Ng:Ent:=evE (.cons au (.cons ae .unit)) c9 (zero (.slice ag)) (fun x=>kh x.1 x.2.1)
def uN:MS:=⟨2,[(0,[.drop]),(1,[.dat aa,.dat (.slice aa),.dat (.slice aa),.dat .str,.dat (.slice ac)])],[(3,.keep),(5,.own ag 91),(6,.dat (.slice aY)),(7,.dat aa)]⟩
def Nh:Par:=⟨XM.tab,(ay [(41,Yj),(42,kw),(43,JM)]),(fun _=>ao [(5,uN)]),(fun _=>ao [(4,uN)])⟩
def YV:KT:=bc XM.tab [.tmp 4] [(.slice ag)]
def Ni (fuel lo:Nat) (p:List Nat):Sg→KT→Option AV:=xc (aD fi0 hs0 fuel 0) Nh lo fuel (sub ((Tryz.f20.body).getD .skip) p)
def pI (fuel n:Nat):ic AV:=fun r1 c out i=>aB 0 uN (Ni fuel 0 [1,1,1,0,1,0,0]) (ai 0 (aw 0 none (Ni fuel 0 [1,1,1,1]) YV)) n ⟨mkE 65 [(3,.box 1 0),(5,.own 2 0 ag out),(6,.val (.slice aY) r1),(7,.val aa i)],mkH 3 [(0,.box [.unk]),(1,.box [.val aa c.1,.val (.slice aa) c.2.1,.val (.slice aa) c.2.2.1,.val .str c.2.2.2.1,.val (.slice ac) c.2.2.2.2.1]),(2,.row ag 91 0)]⟩
theorem QE (fuel n4:Nat):pI fuel (n4+1)=ow true (sm c9) (pI fuel n4):=by kernel_rfl
theorem QF : ∀ n,pI FU n=mp4 c9 (pJ n):=bo (by kernel_rfl) fun n4 _ h=>(QE FU n4).trans (by rw [h]; funext _ _ _ _; simp only [ow,ox,ss])
theorem YU:ar Tryz.prog 20 (Ng):=evX Tryz.func20 (S:=Nh) XL (ah ⟨ag4,oW,aew,trivial⟩) (tys:=[(.slice ag)]) (fun fuel x=>wP true (sm c9) (pI fuel fuel) x.1 x.2.1) (fun x=>by show _=Option.map c9 _; rw [QF FU]; simp only [wP,kh,ox,ss])
end
end Go.Proofs.YtboikinjlmjgjaaGreat.Abs
namespace Go.Proofs.YtboikinjlmjgjaaGreat.Abs
end Go.Proofs.YtboikinjlmjgjaaGreat.Abs
namespace Go.Proofs.YtboikinjlmjgjaaGreat.Abs
end Go.Proofs.YtboikinjlmjgjaaGreat.Abs
namespace Go.Proofs.YtboikinjlmjgjaaGreat.Abs
open Go
set_option linter.unusedSimpArgs false
set_option linter.unusedVariables false
noncomputable section
def tX:TabL:={
 ty:=[(3,aa),(4,.bool),(9,.str),(22,(.slice bB)),(23,(.slice aa)),(24,(.slice ac)),(26,ae),(28,(.slice ae)),(30,bB),(35,(.slice aG)),(37,(.slice ak)),(39,au),(41,(.slice aK)),(43,aG),(51,ap),(53,aK),(58,(.slice ag)),(75,ak),(86,ac),(89,(.slice ap)),(91,ag)],
 cells:=[(3,1),(4,1),(9,1),(22,1),(23,1),(24,1),(26,5),(28,1),(30,4),(35,1),(37,1),(39,1),(41,1),(43,5),(51,4),(53,5),(58,1),(75,3),(86,6),(89,1),(91,7)],
 offs:=[((26,0),0),((26,1),1),((26,2),2),((26,3),3),((26,4),4),((30,0),0),((30,1),1),((30,2),2),((30,3),3),((39,0),0),((43,0),0),((43,1),1),((43,2),2),((43,3),3),((43,4),4),((51,0),0),((51,1),1),((51,2),2),((51,3),3),((53,0),0),((53,1),1),((75,0),0),((75,1),1),((75,2),2),((86,0),0),((86,1),1),((86,2),2),((91,0),0),((91,1),1),((91,2),2),((91,3),3)],
 one:=[],
 elem:=[(22,30),(23,3),(24,86),(28,26),(35,43),(37,75),(41,53),(58,91),(89,51)] }
theorem vC:TabOk Tryz.prog tX.tab:=TabL.ok (by kernel_rfl)
abbrev kA (β:Type):=Int→Int→ae.den→Int→Option β
def nE (m:Bool) {β:Type} (K:b8→Option β) (k_l2:kA β):kA β:=fun id field c t13=>(bif (decide (t13<(il c.2.2.2.2.1))) then (ck (bd t13 c.2.2.2.2.1.length) (nq m [2,3,1] (decide ((ix ac c.2.2.2.2.1 t13).1=id)) (bif (bif (decide ((ix ac c.2.2.2.2.1 t13).1=id)) then (decide ((ix ac c.2.2.2.2.1 t13).2.1=field)) else false) then (K ((ix ac c.2.2.2.2.1 t13).2.2.1,true,())) else (fz m aa (w64 (t13+1)) fun y3_=>(k_l2 id field c y3_))))) else (K ((0,false,[],0,()),false,())))
def vo (m:Bool) {β:Type} (K:b8→Option β) (k_l2:kA β) (c:ae.den) (id:Int) (field:Int):Option β:=(k_l2 id field c 0)
def o6:Nat→kA b8:=lp (fun _ _ _ _=>none) fun k_l2=>nE false some k_l2
def nF (c:ae.den) (id:Int) (field:Int):Option b8:=vo false some (o6 FU) c id field
def Lo:Ent:=evE (.cons ae (.cons aa (.cons aa .unit))) bY (zero (.cons ap (.cons .bool .unit))) (fun x=>nF x.1 x.2.1 x.2.2.1)
def BQ:MS:=⟨2,[(0,[.drop,.drop,.drop,.drop,.drop]),(1,[.dat aa,.dat .bool,.dat .str,.dat aa])],[(1,.dat aa),(2,.dat aa),(6,.keep),(11,.dat (.slice ac)),(12,.dat aa),(13,.dat aa)]⟩
def Lp:Par:=⟨tX.tab,(ay []),(fun _=>ao []),(fun _=>ao [(2,BQ)])⟩
def Xu:KT:=bc tX.tab [.cell 6 51,.tmp 7] [ap,.bool]
def Lr (fuel lo:Nat) (p:List Nat):Sg→KT→Option AV:=xc (aD fi0 hs0 fuel 0) Lp lo fuel (sub ((Tryz.f39.body).getD .skip) p)
def o5 (fuel n:Nat):kA AV:=fun id field c t13=>aB 0 BQ (Lr fuel 0 [1,0,1,0,0]) (ai 0 (aw 0 none (Lr fuel 0 [1,1]) Xu)) n ⟨mkE 31 [(1,.val aa id),(2,.val aa field),(6,.box 1 0),(11,.val (.slice ac) c.2.2.2.2.1),(12,.val aa (il c.2.2.2.2.1)),(13,.val aa t13)],mkH 2 [(0,.box [.unk,.unk,.unk,.unk,.unk]),(1,.box [.val aa (0:Int),.val .bool false,.val .str [],.val aa (0:Int)])]⟩
theorem O5 (fuel n2:Nat):o5 fuel (n2+1)=nE true (sm bY) (o5 fuel n2):=by kernel_rfl
theorem O6 : ∀ n,o5 FU n=mp4 bY (o6 n):=bo (by kernel_rfl) fun n2 _ h=>(O5 FU n2).trans (by rw [h]; funext _ _ _ _; simp only [nE,ss])
theorem Xt:ar Tryz.prog 39 (Lo):=evX Tryz.func39 (S:=Lp) vC (ah trivial) (tys:=[ap,.bool]) (fun fuel x=>vo true (sm bY) (o5 fuel fuel) x.1 x.2.1 x.2.2.1) (fun x=>by show _=Option.map bY _; rw [O6 FU]; simp only [vo,nF,ss])
abbrev ig (β:Type):=(List aG.den)→ae.den→(List ag.den)→Int→Option β
abbrev QG (β:Type):=(List aG.den)→Int→ae.den→(List ag.den)→Option β
def ki (m:Bool) {β:Type} (K:bS→Option β) (k_l3:ig β):QG β:=fun r1 t13 c l=>(fz m aa (w64 (t13+1)) fun y3_=>(k_l3 r1 c l y3_))
def oA (m:Bool) {β:Type} (K:bS→Option β) (k_l3:ig β):ig β:=fun r1 c l t13=>(bif (decide (t13<(il r1))) then (ck (bd t13 r1.length) (bif (!decide ((ix aG r1 t13).1=1)) then (ki m K k_l3 r1 t13 c l) else (cl m (.cons ap (.cons .bool .unit)) (nF c ((ix aG r1 t13).2.1) ((ix aG r1 t13).2.2.1)) fun r2=>(bif r2.2.1 then (ce m (.slice ap) (md ((ix aG r1 t13).2.2.2.1)) (b6 ((ix aG r1 t13).2.2.2.1)) fun r3=>(ck (lm (List.length l+List.length ([((ix aG r1 t13).2.1,(ix aG r1 t13).2.2.1,r3,r2.1,())]:List ag.den))) (fz m (.slice ag) (l++[((ix aG r1 t13).2.1,(ix aG r1 t13).2.2.1,r3,r2.1,())]) fun y3_=>(ki m K k_l3 r1 t13 c y3_)))) else (ki m K k_l3 r1 t13 c l))))) else (K l))
def wQ (m:Bool) {β:Type} (K:bS→Option β) (k_l3:ig β) (s:au.den) (c:ae.den):Option β:=(ce m (.slice aG) (Tk s) (E0 s) fun r1=>(k_l3 r1 c [] 0))
def pM:Nat→ig bS:=lp (fun _ _ _ _=>none) fun k_l3=>oA false some k_l3
def kj (s:au.den) (c:ae.den):Option bS:=wQ false some (pM FU) s c
def Nj:Ent:=evE (.cons au (.cons ae .unit)) c9 (zero (.slice ag)) (fun x=>kj x.1 x.2.1)
def uO:MS:=⟨2,[(0,[.drop]),(1,[.dat aa,.dat (.slice aa),.dat (.slice aa),.dat .str,.dat (.slice ac)])],[(3,.keep),(5,.own ag 91),(11,.dat (.slice aG)),(12,.dat aa),(13,.dat aa)]⟩
def Nk:Par:=⟨tX.tab,(ay [(10,P3),(39,Lo),(40,sf)]),(fun _=>ao [(9,uO)]),(fun _=>ao [(3,uO)])⟩
def YX:KT:=bc tX.tab [.tmp 4] [(.slice ag)]
def Nl (fuel lo:Nat) (p:List Nat):Sg→KT→Option AV:=xc (aD fi0 hs0 fuel 0) Nk lo fuel (sub ((Tryz.f19.body).getD .skip) p)
def pK (fuel n:Nat):ig AV:=fun r1 c l t13=>aB 0 uO (Nl fuel 0 [1,1,0,1,0,0]) (ai 0 (aw 0 none (Nl fuel 0 [1,1,1]) YX)) n ⟨mkE 44 [(3,.box 1 0),(5,.own 2 0 ag l),(11,.val (.slice aG) r1),(12,.val aa (il r1)),(13,.val aa t13)],mkH 3 [(0,.box [.unk]),(1,.box [.val aa c.1,.val (.slice aa) c.2.1,.val (.slice aa) c.2.2.1,.val .str c.2.2.2.1,.val (.slice ac) c.2.2.2.2.1]),(2,.row ag 91 0)]⟩
theorem QH (fuel n3:Nat):pK fuel (n3+1)=oA true (sm c9) (pK fuel n3):=by kernel_rfl
theorem QI : ∀ n,pK FU n=mp4 c9 (pM n):=bo (by kernel_rfl) fun n3 _ h=>(QH FU n3).trans (by rw [h]; funext _ _ _ _; simp only [oA,ki,ss])
theorem YW:ar Tryz.prog 19 (Nj):=evX Tryz.func19 (S:=Nk) vC (ah ⟨ag3,Xt,FC,trivial⟩) (tys:=[(.slice ag)]) (fun fuel x=>wQ true (sm c9) (pK fuel fuel) x.1 x.2.1) (fun x=>by show _=Option.map c9 _; rw [QI FU]; simp only [wQ,kj,ki,ss])
abbrev ft (β:Type):=(List ae.den)→Int→Option β
def OQ:Bool:=(io).isSome
def OR:Bool:=(io).getD (zero .bool)
def gG (m:Bool) {β:Type} (K:Bool→Option β) (k_l3:ft β):ft β:=fun r1 i=>(bif (decide (i<(il r1))) then (ck (bd i r1.length) (cl m au (l9 r1 ((ix ae r1 i).2.1)) fun r2=>(ck (bd i r1.length) (cl m (.slice ag) (kj r2 (ix ae r1 i)) fun r3=>(ck (bd i r1.length) (cl m (.slice ag) (kh r2 (ix ae r1 i)) fun r4=>(cl m .bool (kc r3 r4) fun r5=>(bif (!r5) then (K false) else (fz m aa (w64 (i+1)) fun y1_=>(k_l3 r1 y1_)))))))))) else (cl m au (EG r1) fun r6=>(ck (bd 0 r1.length) (cl m (.slice ag) (kj r6 (ix ae r1 0)) fun r7=>(ck (bd 0 r1.length) (cl m (.slice ag) (kh r6 (ix ae r1 0)) fun r8=>(cl m .bool (kc r7 r8) fun r9=>(ck (aC r9 (OQ)) (nq m [1] r9 (K (bif r9 then OR else false)))))))))))
def mQ (m:Bool) {β:Type} (K:Bool→Option β) (k_l3:ft β) (first:Int) (l:(List bB.den)):Option β:=(cl m (.slice ae) (i6 first l) fun r1=>(k_l3 r1 0))
def iy:Nat→ft Bool:=lp (fun _ _=>none) fun k_l3=>gG false some k_l3
def e7 (first:Int) (l:(List bB.den)):Option Bool:=mQ false some (iy FU) first l
def zS:Ent:=evE (.cons aa (.cons (.slice bB) .unit)) af (zero .bool) (fun x=>e7 x.1 x.2.1)
def uh:MS:=⟨0,[],[(5,.dat (.slice ae)),(6,.dat aa)]⟩
def zT:Par:=⟨tX.tab,(ay [(13,Dk),(17,BD),(19,Nj),(20,Ng),(18,Mg),(11,agI),(21,Hj)]),(fun _=>ao []),(fun _=>ao [(3,uh)])⟩
def Np:KT:=bc tX.tab [.tmp 4] [.bool]
def zU (fuel lo:Nat) (p:List Nat):Sg→KT→Option AV:=xc (aD fi0 hs0 fuel 0) zT lo fuel (sub ((Tryz.f5.body).getD .skip) p)
def iw (fuel n:Nat):ft AV:=fun r1 i=>aB 0 uh (zU fuel 0 [1,1,0,1,0,0]) (ai 0 (aw 0 none (zU fuel 0 [1,1,1]) Np)) n ⟨mkE 55 [(5,.val (.slice ae) r1),(6,.val aa i)],mkH 0 []⟩
theorem Fd (fuel n3:Nat):iw fuel (n3+1)=gG true (sm af) (iw fuel n3):=by kernel_rfl
theorem Fe : ∀ n,iw FU n=mp2 af (iy n):=bo (by kernel_rfl) fun n3 _ h=>(Fd FU n3).trans (by rw [h]; funext _ _; simp only [gG,ss])
theorem Nn:ar Tryz.prog 5 (zS):=evX Tryz.func5 (S:=zT) vC (ah ⟨QT,KV,YW,YU,X6,alI,W7,trivial⟩) (tys:=[.bool]) (fun fuel x=>mQ true (sm af) (iw fuel fuel) x.1 x.2.1) (fun x=>by show _=Option.map af _; rw [Fe FU]; simp only [mQ,e7,ss])
end
end Go.Proofs.YtboikinjlmjgjaaGreat.Abs
