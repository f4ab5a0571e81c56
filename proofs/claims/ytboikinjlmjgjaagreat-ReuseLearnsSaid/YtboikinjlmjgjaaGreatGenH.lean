/- The equations of the program's functions on the abstract machine. (Printed by gen.py; each is checked by the kernel.) -/
import Derived.Test.YtboikinjlmjgjaaGreatGenW
import Derived.Test.YtboikinjlmjgjaaGreatChainW
import Derived.Test.YtboikinjlmjgjaaGreatChecked
namespace Go.Proofs.YtboikinjlmjgjaaGreat.Abs
end Go.Proofs.YtboikinjlmjgjaaGreat.Abs
namespace Go.Proofs.YtboikinjlmjgjaaGreat.Abs
end Go.Proofs.YtboikinjlmjgjaaGreat.Abs
namespace Go.Proofs.YtboikinjlmjgjaaGreat.Abs
open Go
set_option linter.unusedSimpArgs false
set_option linter.unusedVariables false
noncomputable section
def ca:TabL:={
 ty:=[(3,aa),(4,.bool),(5,(.int .u8)),(9,.str),(22,(.slice bB)),(23,(.slice aa)),(24,(.slice ac)),(26,ae),(28,(.slice ae)),(30,bB),(35,(.slice aG)),(37,(.slice ak)),(39,au),(41,(.slice aK)),(43,aG),(48,aM),(51,ap),(53,aK),(60,aa),(75,ak),(86,ac),(101,(.slice (.slice aa))),(152,(.slice (.int .u8)))],
 cells:=[(3,1),(4,1),(5,1),(9,1),(22,1),(23,1),(24,1),(26,5),(28,1),(30,4),(35,1),(37,1),(39,1),(41,1),(43,5),(48,1),(51,4),(53,5),(60,1),(75,3),(86,6),(101,1),(152,1)],
 offs:=[((26,0),0),((26,1),1),((26,2),2),((26,3),3),((26,4),4),((30,0),0),((30,1),1),((30,2),2),((30,3),3),((39,0),0),((43,0),0),((43,1),1),((43,2),2),((43,3),3),((43,4),4),((48,0),0),((51,0),0),((51,1),1),((51,2),2),((51,3),3),((53,0),0),((53,1),1),((75,0),0),((75,1),1),((75,2),2),((86,0),0),((86,1),1),((86,2),2)],
 one:=[],
 elem:=[(22,30),(23,3),(24,86),(28,26),(35,43),(37,75),(41,53),(101,23),(152,5)] }
def LU:TabL:={
 ty:=[(3,aa),(4,.bool),(5,(.int .u8)),(9,.str),(22,(.slice bB)),(23,(.slice aa)),(24,(.slice ac)),(26,ae),(28,(.slice ae)),(30,bB),(35,(.slice aG)),(37,(.slice ak)),(39,au),(41,(.slice aK)),(43,aG),(48,aM),(51,ap),(53,aK),(60,aa),(75,ak),(86,ac),(101,(.slice (.slice aa))),(152,(.slice (.int .u8)))],
 cells:=[(3,1),(4,1),(5,1),(9,1),(22,1),(23,1),(24,1),(26,5),(28,1),(30,4),(35,1),(37,1),(39,1),(41,1),(43,5),(48,1),(51,4),(53,5),(60,1),(75,3),(86,6),(101,1),(152,1)],
 offs:=[((26,0),0),((26,1),1),((26,2),2),((26,3),3),((26,4),4),((30,0),0),((30,1),1),((30,2),2),((30,3),3),((39,0),0),((43,0),0),((43,1),1),((43,2),2),((43,3),3),((43,4),4),((48,0),0),((51,0),0),((51,1),1),((51,2),2),((51,3),3),((53,0),0),((53,1),1),((75,0),0),((75,1),1),((75,2),2),((86,0),0),((86,1),1),((86,2),2)],
 one:=[],
 inp:=[22,23,24,28,35,37,41,101,152],
 elem:=[(22,30),(23,3),(24,86),(28,26),(35,43),(37,75),(41,53),(101,23),(152,5)] }
theorem aW:TabOk Tryz.prog ca.tab:=TabL.ok (by kernel_rfl)
theorem LT:TabOk Tryz.prog LU.tab:=TabL.ok (by kernel_rfl)
def pc (m:Bool) {β:Type} (K:Bool→Option β) (id:Int):Option β:=(nq m [2,1] (decide (id>1048576)) (nm m 1 (bif (decide (id>1048576)) then (decide (id<34603008)) else false) (!decide ((1048576:Int)=0)) (nq m [2,1] (bif (decide (id>1048576)) then (decide (id<34603008)) else false) (K (bif (bif (decide (id>1048576)) then (decide (id<34603008)) else false) then (!decide ((Int.tmod id 1048576)=0)) else false)))))
def cH (id:Int):Option Bool:=pc false some id
def er:Ent:=evE (.cons aa .unit) af (zero .bool) (fun x=>cH x.1)
def pd:Par:=⟨ca.tab,(ay []),(fun _=>ao []),(fun _=>ao [])⟩
theorem fD:ar Tryz.prog 109 (er):=evX Tryz.func109 (S:=pd) aW (ah trivial) (tys:=[.bool]) (fun fuel x=>pc true (sm af) x.1) (fun x=>by show _=Option.map af _; simp only [pc,cH,ss])
def kH (m:Bool) {β:Type} (K:Bool→Option β) (k_l4:fO β):fO β:=fun key i=>(bif (decide (i<(il key))) then (ck (bd i key.length) (nm m 2 (!(decide ((ixs key i)<97))) (bd i key.length) (nq m [2,0] (!(decide ((ixs key i)<97))) (bif (bif (decide ((ixs key i)<97)) then true else (decide ((ixs key i)>122))) then (K false) else (fz m aa (w64 (i+1)) fun y1_=>(k_l4 key y1_)))))) else (K true))
def sk (m:Bool) {β:Type} (K:Bool→Option β) (k_l4:fO β) (key:Str):Option β:=(nq m [2,2,0] (!(decide ((il key)<1))) (nq m [2,2] (!(bif (decide ((il key)<1)) then true else (decide ((il key)>60)))) (nm m 2 (!(bif (decide ((il key)<1)) then true else (decide ((il key)>60)))) (bd (w64 ((il key)-1)) key.length) (nq m [2,0] (!(bif (decide ((il key)<1)) then true else (decide ((il key)>60)))) (bif (bif (bif (decide ((il key)<1)) then true else (decide ((il key)>60))) then true else (decide ((ixs key (w64 ((il key)-1)))=97))) then (K false) else (k_l4 key 0))))))
def mv:Nat→fO Bool:=lp (fun _ _=>none) fun k_l4=>kH false some k_l4
def kI (key:Str):Option Bool:=sk false some (mv FU) key
def FI:Ent:=evE (.cons .str .unit) af (zero .bool) (fun x=>kI x.1)
def FJ:Par:=⟨ca.tab,(ay []),(fun _=>ao []),(fun _=>ao [(4,Dt)])⟩
def gZ:KT:=bc ca.tab [.tmp 2] [.bool]
def FK (fuel lo:Nat) (p:List Nat):Sg→KT→Option AV:=xc (aD fi0 hs0 fuel 0) FJ lo fuel (sub ((Tryz.f179.body).getD .skip) p)
def mu (fuel n:Nat):fO AV:=fun key i=>aB 0 Dt (FK fuel 0 [1,1,0,1,0,0]) (ai 0 (aw 0 none (FK fuel 0 [1,1,1]) gZ)) n ⟨mkE 36 [(0,.val .str key),(3,.val aa i)],mkH 0 []⟩
theorem LH (fuel n4:Nat):mu fuel (n4+1)=kH true (sm af) (mu fuel n4):=by kernel_rfl
theorem LI : ∀ n,mu FU n=mp2 af (mv n):=bo (by kernel_rfl) fun n4 _ h=>(LH FU n4).trans (by rw [h]; funext _ _; simp only [kH,ss])
theorem UN:ar Tryz.prog 179 (FI):=evX Tryz.func179 (S:=FJ) aW (ah trivial) (tys:=[.bool]) (fun fuel x=>sk true (sm af) (mu fuel fuel) x.1) (fun x=>by show _=Option.map af _; rw [LI FU]; simp only [sk,kI,ss])
def mI (m:Bool) {β:Type} (K:Bool→Option β) (a:ac.den) (b:ac.den):Option β:=(nq m [2,2,3,1] (decide (a.1=b.1)) (K (bif (decide (a.1=b.1)) then (decide (a.2.1=b.2.1)) else false)))
def eY (a:ac.den) (b:ac.den):Option Bool:=mI false some a b
def zJ:Ent:=evE (.cons ac (.cons ac .unit)) af (zero .bool) (fun x=>eY x.1 x.2.1)
theorem Mv:ar Tryz.prog 224 (zJ):=evX Tryz.func224 (S:=pd) aW (ah trivial) (tys:=[.bool]) (fun fuel x=>mI true (sm af) x.1 x.2.1) (fun x=>by show _=Option.map af _; simp only [mI,eY,ss])
def xZ (m:Bool) {β:Type} (K:Bool→Option β) (a:ac.den) (b:ac.den):Option β:=(bif (!decide (a.1=b.1)) then (K (decide (a.1<b.1))) else (K (decide (a.2.1<b.2.1))))
def ip (a:ac.den) (b:ac.den):Option Bool:=xZ false some a b
def EN:Ent:=evE (.cons ac (.cons ac .unit)) af (zero .bool) (fun x=>ip x.1 x.2.1)
theorem OU:ar Tryz.prog 223 (EN):=evX Tryz.func223 (S:=pd) aW (ah trivial) (tys:=[.bool]) (fun fuel x=>xZ true (sm af) x.1 x.2.1) (fun x=>by show _=Option.map af _; simp only [xZ,ip,ss])
abbrev sM (β:Type):=(List ac.den)→Int→(List ac.den)→Int→Option β
abbrev adH (β:Type):=(List ac.den)→Int→Int→(List ac.den)→Option β
def CZ (m:Bool) {β:Type} (K:bD→Option β) (k_l3:sM β):adH β:=fun l id i out=>(fz m aa (w64 (i+1)) fun y3_=>(k_l3 l id out y3_))
def CY (m:Bool) {β:Type} (K:bD→Option β) (k_l3:sM β):sM β:=fun l id out i=>(bif (decide (i<(il l))) then (ck (bd i l.length) (bif (decide ((ix ac l i).1=id)) then (ck (bd i l.length) (ck (lm (List.length out+List.length ([(ix ac l i)]:List ac.den))) (fz m (.slice ac) (out++[(ix ac l i)]) fun y3_=>(CZ m K k_l3 l id i y3_)))) else (CZ m K k_l3 l id i out))) else (K out))
def Tq (m:Bool) {β:Type} (K:bD→Option β) (k_l3:sM β) (l:(List ac.den)) (id:Int):Option β:=(k_l3 l id [] 0)
def AZ:Nat→sM bD:=lp (fun _ _ _ _=>none) fun k_l3=>CY false some k_l3
def C0 (l:(List ac.den)) (id:Int):Option bD:=Tq false some (AZ FU) l id
def agj:Ent:=evE (.cons (.slice ac) (.cons aa .unit)) bL (zero (.slice ac)) (fun x=>C0 x.1 x.2.1)
def IG:MS:=⟨0,[],[(0,.dat (.slice ac)),(1,.dat aa),(5,.own ac 86),(6,.dat aa)]⟩
def agk:Par:=⟨ca.tab,(ay []),(fun _=>ao [(4,IG)]),(fun _=>ao [(3,IG)])⟩
def YL:KT:=bc ca.tab [.tmp 4] [(.slice ac)]
def agl (fuel lo:Nat) (p:List Nat):Sg→KT→Option AV:=xc (aD fi0 hs0 fuel 0) agk lo fuel (sub ((Tryz.f108.body).getD .skip) p)
def AY (fuel n:Nat):sM AV:=fun l id out i=>aB 0 IG (agl fuel 0 [1,1,0,1,0,0]) (ai 0 (aw 0 none (agl fuel 0 [1,1,1]) YL)) n ⟨mkE 28 [(0,.val (.slice ac) l),(1,.val aa id),(5,.own 0 0 ac out),(6,.val aa i)],mkH 1 [(0,.row ac 86 0)]⟩
theorem adI (fuel n3:Nat):AY fuel (n3+1)=CY true (sm bL) (AY fuel n3):=by kernel_rfl
theorem adJ : ∀ n,AY FU n=mp4 bL (AZ n):=bo (by kernel_rfl) fun n3 _ h=>(adI FU n3).trans (by rw [h]; funext _ _ _ _; simp only [CY,CZ,ss])
theorem aj4:ar Tryz.prog 108 (agj):=evX Tryz.func108 (S:=agk) aW (ah trivial) (tys:=[(.slice ac)]) (fun fuel x=>Tq true (sm bL) (AY fuel fuel) x.1 x.2.1) (fun x=>by show _=Option.map bL _; rw [adJ FU]; simp only [Tq,C0,CZ,ss])
abbrev bP (β:Type):=(List ac.den)→Int→Option β
def af9 (x0:ac.den) (x1:ac.den):Bool:=(ip x0 x1).isSome
def aga (x0:ac.den) (x1:ac.den):Bool:=(ip x0 x1).getD (zero .bool)
def kx (m:Bool) {β:Type} (K:Bool→Option β) (k_l2:bP β):bP β:=fun l i=>(bif (decide (i<(il l))) then (ck (bd i l.length) (cl m .bool (cH ((ix ac l i).1)) fun r1=>(nm m 2 (!(!r1)) (bd i l.length) (nq m [2,2,2,0] (!(!r1)) (nm m 2 (!(bif (!r1) then true else (decide ((ix ac l i).2.1<1)))) (bd i l.length) (nq m [2,2,2,0] (!(bif (!r1) then true else (decide ((ix ac l i).2.1<1)))) (nq m [2,2] (!(bif (bif (!r1) then true else (decide ((ix ac l i).2.1<1))) then true else (decide ((ix ac l i).2.1≥48)))) (nq m [2] ((!(bif (bif (!r1) then true else (decide ((ix ac l i).2.1<1))) then true else (decide ((ix ac l i).2.1≥48))))&&(decide (i>0))) (nm m 2 ((!(bif (bif (!r1) then true else (decide ((ix ac l i).2.1<1))) then true else (decide ((ix ac l i).2.1≥48))))&&(decide (i>0))) (bd (w64 (i-1)) l.length) (nq m [2] ((!(bif (bif (!r1) then true else (decide ((ix ac l i).2.1<1))) then true else (decide ((ix ac l i).2.1≥48))))&&(decide (i>0))) (nm m 2 ((!(bif (bif (!r1) then true else (decide ((ix ac l i).2.1<1))) then true else (decide ((ix ac l i).2.1≥48))))&&(decide (i>0))) (bd i l.length) (nq m [2] ((!(bif (bif (!r1) then true else (decide ((ix ac l i).2.1<1))) then true else (decide ((ix ac l i).2.1≥48))))&&(decide (i>0))) (nm m 2 ((!(bif (bif (!r1) then true else (decide ((ix ac l i).2.1<1))) then true else (decide ((ix ac l i).2.1≥48))))&&(decide (i>0))) (af9 (ix ac l (w64 (i-1))) (ix ac l i)) (nq m [2] ((!(bif (bif (!r1) then true else (decide ((ix ac l i).2.1<1))) then true else (decide ((ix ac l i).2.1≥48))))&&(decide (i>0))) (nm m 0 (!(bif (bif (!r1) then true else (decide ((ix ac l i).2.1<1))) then true else (decide ((ix ac l i).2.1≥48)))) ((ii ((!(bif (bif (!r1) then true else (decide ((ix ac l i).2.1<1))) then true else (decide ((ix ac l i).2.1≥48))))&&(decide (i>0))))&&true) (nq m [0] (!(bif (bif (!r1) then true else (decide ((ix ac l i).2.1<1))) then true else (decide ((ix ac l i).2.1≥48)))) (bif (bif (bif (bif (!r1) then true else (decide ((ix ac l i).2.1<1))) then true else (decide ((ix ac l i).2.1≥48))) then true else (bif (decide (i>0)) then (!(aga (ix ac l (w64 (i-1))) (ix ac l i))) else false)) then (K false) else (fz m aa (w64 (i+1)) fun y1_=>(k_l2 l y1_))))))))))))))))))) else (K true))
def rZ (m:Bool) {β:Type} (K:Bool→Option β) (k_l2:bP β) (l:(List ac.den)):Option β:=(k_l2 l 0)
def mg:Nat→bP Bool:=lp (fun _ _=>none) fun k_l2=>kx false some k_l2
def ky (l:(List ac.den)):Option Bool:=rZ false some (mg FU) l
def Fw:Ent:=evE (.cons (.slice ac) .unit) af (zero .bool) (fun x=>ky x.1)
def fQ:MS:=⟨0,[],[(0,.dat (.slice ac)),(3,.dat aa)]⟩
def Fx:Par:=⟨ca.tab,(ay [(109,er),(223,EN)]),(fun _=>ao []),(fun _=>ao [(2,fQ)])⟩
def Fy (fuel lo:Nat) (p:List Nat):Sg→KT→Option AV:=xc (aD fi0 hs0 fuel 0) Fx lo fuel (sub ((Tryz.f209.body).getD .skip) p)
def mf (fuel n:Nat):bP AV:=fun l i=>aB 0 fQ (Fy fuel 0 [1,0,1,0,0]) (ai 0 (aw 0 none (Fy fuel 0 [1,1]) gZ)) n ⟨mkE 50 [(0,.val (.slice ac) l),(3,.val aa i)],mkH 0 []⟩
theorem Lg (fuel n2:Nat):mf fuel (n2+1)=kx true (sm af) (mf fuel n2):=by kernel_rfl
theorem Lh : ∀ n,mf FU n=mp2 af (mg n):=bo (by kernel_rfl) fun n2 _ h=>(Lg FU n2).trans (by rw [h]; funext _ _; simp only [kx,ss])
theorem UE:ar Tryz.prog 209 (Fw):=evX Tryz.func209 (S:=Fx) aW (ah ⟨fD,OU,trivial⟩) (tys:=[.bool]) (fun fuel x=>rZ true (sm af) (mf fuel fuel) x.1) (fun x=>by show _=Option.map af _; rw [Lh FU]; simp only [rZ,ky,ss])
def kF (m:Bool) {β:Type} (K:Bool→Option β) (k_l2:bP β):bP β:=fun l i=>(bif (decide (i<(il l))) then (ck (bd i l.length) (bif (eqD ap (ix ac l i).2.2.1 (0,false,[],0,())) then (K false) else (fz m aa (w64 (i+1)) fun y1_=>(k_l2 l y1_)))) else (cl m .bool (ky l) fun r1=>(K r1)))
def sj (m:Bool) {β:Type} (K:Bool→Option β) (k_l2:bP β) (l:(List ac.den)):Option β:=(k_l2 l 0)
def mt:Nat→bP Bool:=lp (fun _ _=>none) fun k_l2=>kF false some k_l2
def kG (l:(List ac.den)):Option Bool:=sj false some (mt FU) l
def FF:Ent:=evE (.cons (.slice ac) .unit) af (zero .bool) (fun x=>kG x.1)
def FG:Par:=⟨ca.tab,(ay [(209,Fw)]),(fun _=>ao []),(fun _=>ao [(2,fQ)])⟩
def FH (fuel lo:Nat) (p:List Nat):Sg→KT→Option AV:=xc (aD fi0 hs0 fuel 0) FG lo fuel (sub ((Tryz.f177.body).getD .skip) p)
def mq (fuel n:Nat):bP AV:=fun l i=>aB 0 fQ (FH fuel 0 [1,0,1,0,0]) (ai 0 (aw 0 none (FH fuel 0 [1,1]) gZ)) n ⟨mkE 19 [(0,.val (.slice ac) l),(3,.val aa i)],mkH 0 []⟩
theorem LD (fuel n2:Nat):mq fuel (n2+1)=kF true (sm af) (mq fuel n2):=by kernel_rfl
theorem LF : ∀ n,mq FU n=mp2 af (mt n):=bo (by kernel_rfl) fun n2 _ h=>(LD FU n2).trans (by rw [h]; funext _ _; simp only [kF,ss])
theorem UM:ar Tryz.prog 177 (FF):=evX Tryz.func177 (S:=FG) aW (ah ⟨UE,trivial⟩) (tys:=[.bool]) (fun fuel x=>sj true (sm af) (mq fuel fuel) x.1) (fun x=>by show _=Option.map af _; rw [LF FU]; simp only [sj,kG,ss])
abbrev kE (β:Type):=aM.den→Int→Int→Int→Int→Option β
def Cy (x0:ac.den) (x1:ac.den):Bool:=(eY x0 x1).isSome
def PX (x0:ac.den) (x1:ac.den):Bool:=(eY x0 x1).getD (zero .bool)
def nI (m:Bool) {β:Type} (K:ap.den→Option β) (k_l3:kE β):kE β:=fun t0 id field lo hi=>(bif (decide (lo<hi)) then (ck (!decide ((2:Int)=0)) (ck (bd (w64 (Int.tdiv (w64 (lo+hi)) 2)) t0.1.length) (cl m .bool (ip (ix ac t0.1 (w64 (Int.tdiv (w64 (lo+hi)) 2))) (id,field,(0,false,[],0,()),())) fun r1=>(bif r1 then (fz m aa (w64 ((w64 (Int.tdiv (w64 (lo+hi)) 2))+1)) fun y3_=>(k_l3 t0 id field y3_ hi)) else (fz m aa (w64 (Int.tdiv (w64 (lo+hi)) 2)) fun y4_=>(k_l3 t0 id field lo y4_)))))) else (nq m [2] (decide (lo<(il t0.1))) (nm m 2 (decide (lo<(il t0.1))) (bd lo t0.1.length) (nq m [2] (decide (lo<(il t0.1))) (nm m 2 (decide (lo<(il t0.1))) (Cy (ix ac t0.1 lo) (id,field,(0,false,[],0,()),())) (nq m [1] (decide (lo<(il t0.1))) (bif (bif (decide (lo<(il t0.1))) then (PX (ix ac t0.1 lo) (id,field,(0,false,[],0,()),())) else false) then (ck (bd lo t0.1.length) (K ((ix ac t0.1 lo).2.2.1))) else (K (0,false,[],0,())))))))))
def vq (m:Bool) {β:Type} (K:ap.den→Option β) (k_l3:kE β) (t0:aM.den) (id:Int) (field:Int):Option β:=(fz m aa (il t0.1) fun y4_=>(k_l3 t0 id field 0 y4_))
def pb:Nat→kE ap.den:=lp (fun _ _ _ _ _=>none) fun k_l3=>nI false some k_l3
def sg (t0:aM.den) (id:Int) (field:Int):Option ap.den:=vq false some (pb FU) t0 id field
def Lz:Ent:=evE (.cons aM (.cons aa (.cons aa .unit))) i9 (zero ap) (fun x=>sg x.1 x.2.1 x.2.2.1)
def BZ:MS:=⟨6,[(0,[.dat (.slice ac)]),(1,[.dat aa,.dat .bool,.dat .str,.dat aa]),(5,[.dat aa,.dat aa,.dat aa,.dat .bool,.dat .str,.dat aa])],[(3,.keep),(6,.keep),(7,.keep),(8,.dat aa),(9,.dat aa)]⟩
def LA:Par:=⟨ca.tab,(ay [(223,EN),(224,zJ)]),(fun _=>ao []),(fun _=>ao [(3,BZ)])⟩
def XC:KT:=bc ca.tab [.cell 6 51] [ap]
def LB (fuel lo:Nat) (p:List Nat):Sg→KT→Option AV:=xc (aD fi0 hs0 fuel 0) LA lo fuel (sub ((Tryz.f210.body).getD .skip) p)
def pa (fuel n:Nat):kE AV:=fun t0 id field lo hi=>aB 0 BZ (LB fuel 0 [1,1,1,0,0,0]) (ai 0 (aw 0 none (LB fuel 0 [1,1,1,1]) XC)) n ⟨mkE 55 [(3,.box 0 0),(6,.box 1 0),(7,.box 5 0),(8,.val aa lo),(9,.val aa hi)],mkH 6 [(0,.box [.val (.slice ac) t0.1]),(1,.box [.val aa (0:Int),.val .bool false,.val .str [],.val aa (0:Int)]),(5,.box [.val aa id,.val aa field,.val aa (0:Int),.val .bool false,.val .str [],.val aa (0:Int)])]⟩
theorem Pi (fuel n3:Nat):pa fuel (n3+1)=nI true (sm i9) (pa fuel n3):=by kernel_rfl
theorem Pj : ∀ n,pa FU n=mp5 i9 (pb n):=bo (by kernel_rfl) fun n3 _ h=>(Pi FU n3).trans (by rw [h]; funext _ _ _ _ _; simp only [nI,ss])
theorem XB:ar Tryz.prog 210 (Lz):=evX Tryz.func210 (S:=LA) aW (ah ⟨OU,Mv,trivial⟩) (tys:=[ap]) (fun fuel x=>vq true (sm i9) (pa fuel fuel) x.1 x.2.1 x.2.2.1) (fun x=>by show _=Option.map i9 _; rw [Pj FU]; simp only [vq,sg,ss])
def Jn (m:Bool) {β:Type} (K:ap.den→Option β) (t0:aM.den) (id:Int) (field:Int):Option β:=(cl m ap (sg t0 id field) fun r1=>(K r1))
def xk (t0:aM.den) (id:Int) (field:Int):Option ap.den:=Jn false some t0 id field
def aac:Ent:=evE (.cons aM (.cons aa (.cons aa .unit))) i9 (zero ap) (fun x=>xk x.1 x.2.1 x.2.2.1)
def aio:Par:=⟨ca.tab,(ay [(210,Lz)]),(fun _=>ao []),(fun _=>ao [])⟩
theorem ain:ar Tryz.prog 178 (aac):=evX Tryz.func178 (S:=aio) aW (ah ⟨XB,trivial⟩) (tys:=[ap]) (fun fuel x=>Jn true (sm i9) x.1 x.2.1 x.2.2.1) (fun x=>by show _=Option.map i9 _; simp only [Jn,xk,ss])
abbrev km (β:Type):=aM.den→(List Int)→Int→Option β
abbrev Wh (β:Type):=Int→aM.den→(List Int)→Option β
def rf (m:Bool) {β:Type} (K:(List Int)→Option β) (k_l3:km β):Wh β:=fun i t0 l=>(fz m aa (w64 (i+1)) fun y2_=>(k_l3 t0 l y2_))
def re (m:Bool) {β:Type} (K:(List Int)→Option β) (k_l3:km β):km β:=fun t0 l i=>(bif (decide (i<(il t0.1))) then (nq m [2] (!(decide (i=0))) (nm m 2 (!(decide (i=0))) (bd i t0.1.length) (nq m [2,2,2,2] (!(decide (i=0))) (nm m 2 (!(decide (i=0))) (bd (w64 (i-1)) t0.1.length) (nq m [2,2,3,0] (!(decide (i=0))) (bif (bif (decide (i=0)) then true else (!decide ((ix ac t0.1 i).1=(ix ac t0.1 (w64 (i-1))).1))) then (ck (bd i t0.1.length) (ck (lm (List.length l+List.length ([(ix ac t0.1 i).1]:List Int))) (fz m (.slice aa) (l++[(ix ac t0.1 i).1]) fun y2_=>(rf m K k_l3 i t0 y2_)))) else (rf m K k_l3 i t0 l))))))) else (K l))
def Bj (m:Bool) {β:Type} (K:(List Int)→Option β) (k_l3:km β) (t0:aM.den):Option β:=(k_l3 t0 [] 0)
def td:Nat→km (List Int):=lp (fun _ _ _=>none) fun k_l3=>re false some k_l3
def rg (t0:aM.den):Option (List Int):=Bj false some (td FU) t0
def bg (r:(List Int)):AV := .val (.slice aa) r
def TJ:Ent:=evE (.cons aM .unit) bg (zero (.slice aa)) (fun x=>rg x.1)
def yH:MS:=⟨1,[(0,[.dat (.slice ac)])],[(1,.keep),(3,.own aa 3),(4,.dat aa)]⟩
def TK:Par:=⟨ca.tab,(ay []),(fun _=>ao [(4,yH)]),(fun _=>ao [(3,yH)])⟩
def IW:KT:=bc ca.tab [.tmp 2] [(.slice aa)]
def TL (fuel lo:Nat) (p:List Nat):Sg→KT→Option AV:=xc (aD fi0 hs0 fuel 0) TK lo fuel (sub ((Tryz.f135.body).getD .skip) p)
def tc (fuel n:Nat):km AV:=fun t0 l i=>aB 0 yH (TL fuel 0 [1,1,0,1,0,0]) (ai 0 (aw 0 none (TL fuel 0 [1,1,1]) IW)) n ⟨mkE 40 [(1,.box 0 0),(3,.own 1 0 aa l),(4,.val aa i)],mkH 2 [(0,.box [.val (.slice ac) t0.1]),(1,.row aa 3 0)]⟩
theorem Wi (fuel n3:Nat):tc fuel (n3+1)=re true (sm bg) (tc fuel n3):=by kernel_rfl
theorem Wj : ∀ n,tc FU n=mp3 bg (td n):=bo (by kernel_rfl) fun n3 _ h=>(Wi FU n3).trans (by rw [h]; funext _ _ _; simp only [re,rf,ss])
theorem adY:ar Tryz.prog 135 (TJ):=evX Tryz.func135 (S:=TK) aW (ah trivial) (tys:=[(.slice aa)]) (fun fuel x=>Bj true (sm bg) (tc fuel fuel) x.1) (fun x=>by show _=Option.map bg _; rw [Wj FU]; simp only [Bj,rg,rf,ss])
def nJ (x0:Int):Bool:=(cH x0).isSome
def yc (x0:Int):Bool:=(cH x0).getD (zero .bool)
def po (m:Bool) {β:Type} (K:Bool→Option β) (v:ap.den):Option β:=(nq m [2,2,0] (!(decide (v.1<5))) (nq m [2,2,2] (!(bif (decide (v.1<5)) then true else (decide (v.1>22)))) (nq m [2] ((!(bif (decide (v.1<5)) then true else (decide (v.1>22))))&&(!decide (v.2.2.2.1=0))) (nm m 1 ((!(bif (decide (v.1<5)) then true else (decide (v.1>22))))&&(!decide (v.2.2.2.1=0))) (nJ (v.2.2.2.1)) (nq m [2] ((!(bif (decide (v.1<5)) then true else (decide (v.1>22))))&&(!decide (v.2.2.2.1=0))) (nm m 0 (!(bif (decide (v.1<5)) then true else (decide (v.1>22)))) ((ii ((!(bif (decide (v.1<5)) then true else (decide (v.1>22))))&&(!decide (v.2.2.2.1=0))))&&true) (nq m [0] (!(bif (decide (v.1<5)) then true else (decide (v.1>22)))) (bif (bif (bif (decide (v.1<5)) then true else (decide (v.1>22))) then true else (bif (!decide (v.2.2.2.1=0)) then (!(yc (v.2.2.2.1))) else false)) then (K false) else (nq m [2,2,0] (!(decide (v.1=12))) (nq m [2,2,0] (!(bif (decide (v.1=12)) then true else (decide (v.1=16)))) (nq m [2,1] (!decide (v.2.2.2.1=0)) (nq m [2,2,1] (bif (!decide (v.2.2.2.1=0)) then (!(bif (bif (decide (v.1=12)) then true else (decide (v.1=16))) then true else (decide (v.1=9)))) else false) (bif (bif (bif (!decide (v.2.2.2.1=0)) then (!(bif (bif (decide (v.1=12)) then true else (decide (v.1=16))) then true else (decide (v.1=9)))) else false) then (!decide (v.1=17)) else false) then (K false) else (nq m [2,2,2] (v.2.1) (nq m [2,2,2] (v.2.1&&(!(decide (v.2.2.2.1=0)))) (nq m [2,2] ((v.2.1&&(!(decide (v.2.2.2.1=0))))&&(!decide (v.1=16))) (nm m 0 (v.2.1&&(!(decide (v.2.2.2.1=0)))) ((ii ((v.2.1&&(!(decide (v.2.2.2.1=0))))&&(!decide (v.1=16))))&&true) (nm m 0 (v.2.1) (ii (v.2.1&&(!(decide (v.2.2.2.1=0))))) (nq m [1] (v.2.1) (bif (bif v.2.1 then (bif (decide (v.2.2.2.1=0)) then true else (bif (!decide (v.1=16)) then (!decide (v.1=9)) else false)) else false) then (K false) else (nq m [2,2,1] (bif (bif (decide (v.1=12)) then true else (decide (v.1=16))) then true else (decide (v.1=9))) (bif (bif (bif (bif (decide (v.1=12)) then true else (decide (v.1=16))) then true else (decide (v.1=9))) then (!decide (v.2.2.2.1=0)) else false) then (K (decide (v.2.2.1=[]))) else (cl m .bool (dM (v.1) (v.2.2.1)) fun r1=>(K r1))))))))))))))))))))))))
def iQ (v:ap.den):Option Bool:=po false some v
def Ch:Ent:=evE (.cons ap .unit) af (zero .bool) (fun x=>iQ x.1)
def PI:Par:=⟨ca.tab,(ay [(109,er),(195,qC)]),(fun _=>ao []),(fun _=>ao [])⟩
theorem PH:ar Tryz.prog 181 (Ch):=evX Tryz.func181 (S:=PI) aW (ah ⟨fD,zx,trivial⟩) (tys:=[.bool]) (fun fuel x=>po true (sm af) x.1) (fun x=>by show _=Option.map af _; simp only [po,iQ,ss])
def XH (x0:Str) (x1:Bool):Bool:=(fG x0 x1).isSome
def XI (x0:Str) (x1:Bool):Bool:=(fG x0 x1).getD (zero .bool)
def tv (m:Bool) {β:Type} (K:Bool→Option β) (kind:Int) (field:Int) (v:ap.den):Option β:=(bif (eqD ap v (0,false,[],0,())) then (K true) else (nq m [2,0] (!(decide (kind<1))) (bif (bif (decide (kind<1)) then true else (decide (kind>5))) then (K false) else (bif (decide (field=1)) then (K (eqD ap v (kind,false,[],0,()))) else (nq m [2,1] (decide (field=2)) (bif (bif (decide (field=2)) then (decide (kind=1)) else false) then (K (eqD ap v (1,false,[],0,()))) else (bif (decide (field=2)) then (nq m [2,2,0] (!(decide (v.1<0))) (nq m [2,0] (!(bif (decide (v.1<0)) then true else (decide (v.1>3)))) (nq m [2] (!(bif (bif (decide (v.1<0)) then true else (decide (v.1>3))) then true else v.2.1)) (nm m 1 (!(bif (bif (decide (v.1<0)) then true else (decide (v.1>3))) then true else v.2.1)) (nJ (v.2.2.2.1)) (nq m [2,0] (!(bif (bif (decide (v.1<0)) then true else (decide (v.1>3))) then true else v.2.1)) (bif (bif (bif (bif (decide (v.1<0)) then true else (decide (v.1>3))) then true else v.2.1) then true else (!(yc (v.2.2.2.1)))) then (K false) else (bif (decide (v.1=0)) then (cl m .bool (kI (v.2.2.1)) fun r1=>(K r1)) else (K (decide (v.2.2.1=[])))))))))) else (nq m [2,1] (decide (field=3)) (bif (bif (decide (field=3)) then (!decide (kind=5)) else false) then (cl m aa (fc (v.2.2.1)) fun r2=>(bif (!eqD ap v (0,false,v.2.2.1,0,())) then (K false) else (nq m [2,0] (!(decide (kind=1))) (bif (bif (decide (kind=1)) then true else (decide (kind=3))) then (K (decide (r2=2))) else (K (decide (r2=1))))))) else (nq m [2,1] (decide (field=4)) (bif (bif (decide (field=4)) then (decide (kind=5)) else false) then (cl m .bool (iQ v) fun r3=>(K r3)) else (nq m [2,1] (decide (field≥8)) (bif (bif (decide (field≥8)) then (decide (field<48)) else false) then (nq m [2,2,2] (eqD ap v (0,false,v.2.2.1,0,())) (nq m [2] ((eqD ap v (0,false,v.2.2.1,0,()))&&(decide (kind=1))) (nm m 0 (eqD ap v (0,false,v.2.2.1,0,())) ((ii ((eqD ap v (0,false,v.2.2.1,0,()))&&(decide (kind=1))))&&true) (nm m 2 (eqD ap v (0,false,v.2.2.1,0,())) (XH (v.2.2.1) (bif (decide (kind=1)) then (decide (field=10)) else false)) (nq m [1] (eqD ap v (0,false,v.2.2.1,0,())) (K (bif (eqD ap v (0,false,v.2.2.1,0,())) then (XI (v.2.2.1) (bif (decide (kind=1)) then (decide (field=10)) else false)) else false))))))) else (K false))))))))))))))
def ik (kind:Int) (field:Int) (v:ap.den):Option Bool:=tv false some kind field v
def yV:Ent:=evE (.cons aa (.cons aa (.cons ap .unit))) af (zero .bool) (fun x=>ik x.1 x.2.1 x.2.2.1)
def WK:Par:=⟨ca.tab,(ay [(109,er),(179,FI),(180,xM),(181,Ch),(182,yd)]),(fun _=>ao []),(fun _=>ao [])⟩
theorem GX:ar Tryz.prog 137 (yV):=evX Tryz.func137 (S:=WK) aW (ah ⟨fD,UN,ED,PH,FR,trivial⟩) (tys:=[.bool]) (fun fuel x=>tv true (sm af) x.1 x.2.1 x.2.2.1) (fun x=>by show _=Option.map af _; simp only [tv,ik,ss])
abbrev fH (β:Type):=aM.den→Int→Bool→Bool→Int→Option β
abbrev zB (β:Type):=aM.den→Int→Int→Bool→Bool→Option β
def nY (m:Bool) {β:Type} (K:Bool→Option β) (k_l6:fH β):zB β:=fun t0 i kind named shaped=>(fz m aa (w64 (i+1)) fun y4_=>(k_l6 t0 kind named shaped y4_))
def g9 (m:Bool) {β:Type} (K:Bool→Option β) (k_l6:fH β):zB β:=fun t0 i kind named shaped=>(ck (bd i t0.1.length) (ck (bd i t0.1.length) (cl m .bool (ik kind ((ix ac t0.1 i).2.1) ((ix ac t0.1 i).2.2.1)) fun r2=>(bif (!r2) then (K false) else (nm m 2 (!named) (bd i t0.1.length) (nq m [2,2,2,0] (!named) (nm m 2 (!shaped) (bd i t0.1.length) (nq m [2,2,2,0] (!shaped) (nq m [2] (!(decide (i=(w64 ((il t0.1)-1))))) (nm m 2 (!(decide (i=(w64 ((il t0.1)-1))))) (bd (w64 (i+1)) t0.1.length) (nq m [2,2] (!(decide (i=(w64 ((il t0.1)-1))))) (nm m 2 (!(decide (i=(w64 ((il t0.1)-1))))) (bd i t0.1.length) (nq m [2,2,3,0] (!(decide (i=(w64 ((il t0.1)-1))))) (bif (bif (decide (i=(w64 ((il t0.1)-1)))) then true else (!decide ((ix ac t0.1 (w64 (i+1))).1=(ix ac t0.1 i).1))) then (nq m [2,1] (decide (kind=5)) (nq m [2,2] (!(bif (decide (kind=5)) then (!(bif shaped then true else (decide ((ix ac t0.1 i).2.1=4)))) else false)) (nq m [2] ((!(bif (decide (kind=5)) then (!(bif shaped then true else (decide ((ix ac t0.1 i).2.1=4)))) else false))&&(!decide (kind=5))) (nm m 0 (!(bif (decide (kind=5)) then (!(bif shaped then true else (decide ((ix ac t0.1 i).2.1=4)))) else false)) ((ii ((!(bif (decide (kind=5)) then (!(bif shaped then true else (decide ((ix ac t0.1 i).2.1=4)))) else false))&&(!decide (kind=5))))&&true) (nq m [0] (!(bif (decide (kind=5)) then (!(bif shaped then true else (decide ((ix ac t0.1 i).2.1=4)))) else false)) (bif (bif (bif (decide (kind=5)) then (!(bif shaped then true else (decide ((ix ac t0.1 i).2.1=4)))) else false) then true else (bif (!decide (kind=5)) then (!(bif named then true else (decide ((ix ac t0.1 i).2.1=3)))) else false)) then (K false) else (fz m .bool (bif named then true else (decide ((ix ac t0.1 i).2.1=3))) fun y3_=>(fz m .bool (bif shaped then true else (decide ((ix ac t0.1 i).2.1=4))) fun y4_=>(nY m K k_l6 t0 i kind y3_ y4_))))))))) else (fz m .bool (bif named then true else (decide ((ix ac t0.1 i).2.1=3))) fun y3_=>(fz m .bool (bif shaped then true else (decide ((ix ac t0.1 i).2.1=4))) fun y4_=>(nY m K k_l6 t0 i kind y3_ y4_)))))))))))))))))
def nX (m:Bool) {β:Type} (K:Bool→Option β) (k_l6:fH β):fH β:=fun t0 kind named shaped i=>(bif (decide (i<(il t0.1))) then (nm m 2 (!(decide (i=0))) (bd i t0.1.length) (nq m [2,2,2] (!(decide (i=0))) (nm m 2 (!(decide (i=0))) (bd (w64 (i-1)) t0.1.length) (nq m [2,2,3,0] (!(decide (i=0))) (bif (bif (decide (i=0)) then true else (!decide ((ix ac t0.1 i).1=(ix ac t0.1 (w64 (i-1))).1))) then (ck (bd i t0.1.length) (bif (!decide ((ix ac t0.1 i).2.1=1)) then (K false) else (ck (bd i t0.1.length) (fz m aa ((ix ac t0.1 i).2.2.1.1) fun y2_=>(g9 m K k_l6 t0 i y2_ false false))))) else (g9 m K k_l6 t0 i kind named shaped)))))) else (K true))
def vL (m:Bool) {β:Type} (K:Bool→Option β) (k_l6:fH β) (t0:aM.den):Option β:=(cl m .bool (kG (t0.1)) fun r1=>(bif (!r1) then (K false) else (k_l6 t0 0 false false 0)))
def kR:Nat→fH Bool:=lp (fun _ _ _ _ _=>none) fun k_l6=>nX false some k_l6
def nZ (t0:aM.den):Option Bool:=vL false some (kR FU) t0
def L0:Ent:=evE (.cons aM .unit) af (zero .bool) (fun x=>nZ x.1)
def ph:MS:=⟨0,[],[(3,.dat (.slice ac)),(4,.dat aa),(5,.dat .bool),(6,.dat .bool),(7,.dat aa)]⟩
def L3:Par:=⟨ca.tab,(ay [(177,FF),(137,yV)]),(fun _=>ao [(12,ph),(7,ph)]),(fun _=>ao [(6,ph)])⟩
def L4 (fuel lo:Nat) (p:List Nat):Sg→KT→Option AV:=xc (aD fi0 hs0 fuel 0) L3 lo fuel (sub ((Tryz.f134.body).getD .skip) p)
def pj (fuel n:Nat):fH AV:=fun t0 kind named shaped i=>aB 0 ph (L4 fuel 0 [1,1,1,1,0,1,0,0]) (ai 0 (aw 0 none (L4 fuel 0 [1,1,1,1,1]) gZ)) n ⟨mkE 111 [(3,.val (.slice ac) t0.1),(4,.val aa kind),(5,.val .bool named),(6,.val .bool shaped),(7,.val aa i)],mkH 0 []⟩
theorem Py (fuel n6:Nat):pj fuel (n6+1)=nX true (sm af) (pj fuel n6):=by kernel_rfl
theorem Pz : ∀ n,pj FU n=mp5 af (kR n):=bo (by kernel_rfl) fun n6 _ h=>(Py FU n6).trans (by rw [h]; funext _ _ _ _ _; simp only [nX,g9,nY,ss])
theorem XW:ar Tryz.prog 134 (L0):=evX Tryz.func134 (S:=L3) aW (ah ⟨UM,GX,trivial⟩) (tys:=[.bool]) (fun fuel x=>vL true (sm af) (pj fuel fuel) x.1) (fun x=>by show _=Option.map af _; rw [Pz FU]; simp only [vL,nZ,g9,nY,ss])
abbrev gE (β:Type):=Int→Int→aM.den→Int→Int→Option β
def iY (m:Bool) {β:Type} (K:Bool→Option β) (k_l2:gE β):gE β:=fun to most t0 id i=>(bif (decide (i<most)) then (cl m ap (xk t0 id 2) fun r1=>(bif (decide (r1.2.2.2.1=to)) then (K true) else (bif (decide (r1.2.2.2.1=0)) then (K false) else (fz m aa (w64 (i+1)) fun y4_=>(k_l2 to most t0 (r1.2.2.2.1) y4_))))) else (K false))
def pz (m:Bool) {β:Type} (K:Bool→Option β) (k_l2:gE β) (t0:aM.den) (id:Int) (to:Int) (most:Int):Option β:=(k_l2 to most t0 id 0)
def jN:Nat→gE Bool:=lp (fun _ _ _ _ _=>none) fun k_l2=>iY false some k_l2
def fW (t0:aM.den) (id:Int) (to:Int) (most:Int):Option Bool:=pz false some (jN FU) t0 id to most
def CF:Ent:=evE (.cons aM (.cons aa (.cons aa (.cons aa .unit)))) af (zero .bool) (fun x=>fW x.1 x.2.1 x.2.2.1 x.2.2.2.1)
def wg:MS:=⟨1,[(0,[.dat (.slice ac)])],[(1,.dat aa),(2,.dat aa),(3,.dat aa),(4,.keep),(9,.dat aa)]⟩
def CG:Par:=⟨ca.tab,(ay [(178,aac)]),(fun _=>ao []),(fun _=>ao [(2,wg)])⟩
def P6:KT:=bc ca.tab [.tmp 8] [.bool]
def CH (fuel lo:Nat) (p:List Nat):Sg→KT→Option AV:=xc (aD fi0 hs0 fuel 0) CG lo fuel (sub ((Tryz.f136.body).getD .skip) p)
def jM (fuel n:Nat):gE AV:=fun to most t0 id i=>aB 0 wg (CH fuel 0 [1,0,1,0,0]) (ai 0 (aw 0 none (CH fuel 0 [1,1]) P6)) n ⟨mkE 24 [(1,.val aa id),(2,.val aa to),(3,.val aa most),(4,.box 0 0),(9,.val aa i)],mkH 1 [(0,.box [.val (.slice ac) t0.1])]⟩
theorem Ij (fuel n2:Nat):jM fuel (n2+1)=iY true (sm af) (jM fuel n2):=by kernel_rfl
theorem Ik : ∀ n,jM FU n=mp5 af (jN n):=bo (by kernel_rfl) fun n2 _ h=>(Ij FU n2).trans (by rw [h]; funext _ _ _ _ _; simp only [iY,ss])
theorem P5:ar Tryz.prog 136 (CF):=evX Tryz.func136 (S:=CG) aW (ah ⟨ain,trivial⟩) (tys:=[.bool]) (fun fuel x=>pz true (sm af) (jM fuel fuel) x.1 x.2.1 x.2.2.1 x.2.2.2.1) (fun x=>by show _=Option.map af _; rw [Ik FU]; simp only [pz,fW,ss])
abbrev gg (β:Type):=Int→(List Int)→aM.den→(List Int)→Int→Option β
abbrev OM (β:Type):=Int→(List Int)→Int→aM.den→(List Int)→Option β
def l5 (m:Bool) {β:Type} (K:(List Int)→Option β) (k_l6:gg β):OM β:=fun id r2 i t0 out=>(fz m aa (w64 (i+1)) fun y4_=>(k_l6 id r2 t0 out y4_))
def Gb (x0:aM.den) (x1:Int) (x2:Int) (x3:Int):Bool:=(fW x0 x1 x2 x3).isSome
def Vn (x0:aM.den) (x1:Int) (x2:Int) (x3:Int):Bool:=(fW x0 x1 x2 x3).getD (zero .bool)
def lZ (m:Bool) {β:Type} (K:(List Int)→Option β) (k_l6:gg β):gg β:=fun id r2 t0 out i=>(bif (decide (i<(il r2))) then (ck (bd i r2.length) (nm m 2 (!decide ((ix aa r2 i)=id)) (bd i r2.length) (nq m [2,2,2] (!decide ((ix aa r2 i)=id)) (ck (((ii (!decide ((ix aa r2 i)=id)))&&((ii (!decide ((ix aa r2 i)=id)))&&((ii (!decide ((ix aa r2 i)=id)))&&((ii (!decide ((ix aa r2 i)=id)))&&true))))&&(aC (!decide ((ix aa r2 i)=id)) (Gb t0 (ix aa r2 i) id (w64 ((il r2)+1))))) (nq m [1] (!decide ((ix aa r2 i)=id)) (bif (bif (!decide ((ix aa r2 i)=id)) then (Vn t0 (ix aa r2 i) id (w64 ((il r2)+1))) else false) then (ck (bd i r2.length) (ck (lm (List.length out+List.length ([(ix aa r2 i)]:List Int))) (fz m (.slice aa) (out++[(ix aa r2 i)]) fun y4_=>(l5 m K k_l6 id r2 i t0 y4_)))) else (l5 m K k_l6 id r2 i t0 out))))))) else (K out))
def tH (m:Bool) {β:Type} (K:(List Int)→Option β) (k_l6:gg β) (t0:aM.den) (id:Int):Option β:=(cl m .bool (nZ t0) fun r1=>(nm m 1 (!(!r1)) (nJ id) (nq m [2,0] (!(!r1)) (bif (bif (!r1) then true else (!(yc id))) then (K []) else (cl m (.slice aa) (rg t0) fun r2=>(k_l6 id r2 t0 [] 0))))))
def m7:Nat→gg (List Int):=lp (fun _ _ _ _ _=>none) fun k_l6=>lZ false some k_l6
def l6 (t0:aM.den) (id:Int):Option (List Int):=tH false some (m7 FU) t0 id
def Hf:Ent:=evE (.cons aM (.cons aa .unit)) bg (zero (.slice aa)) (fun x=>l6 x.1 x.2.1)
def rJ:MS:=⟨1,[(0,[.dat (.slice ac)])],[(1,.dat aa),(2,.keep),(5,.own aa 3),(6,.dat (.slice aa)),(7,.dat aa)]⟩
def Hg:Par:=⟨ca.tab,(ay [(134,L0),(109,er),(135,TJ),(136,CF)]),(fun _=>ao [(7,rJ)]),(fun _=>ao [(6,rJ)])⟩
def tI:KT:=bc ca.tab [.tmp 4] [(.slice aa)]
def Hh (fuel lo:Nat) (p:List Nat):Sg→KT→Option AV:=xc (aD fi0 hs0 fuel 0) Hg lo fuel (sub ((Tryz.f107.body).getD .skip) p)
def m6 (fuel n:Nat):gg AV:=fun id r2 t0 out i=>aB 0 rJ (Hh fuel 0 [1,1,1,1,0,1,0,0]) (ai 0 (aw 0 none (Hh fuel 0 [1,1,1,1,1]) tI)) n ⟨mkE 50 [(1,.val aa id),(2,.box 0 0),(5,.own 1 0 aa out),(6,.val (.slice aa) r2),(7,.val aa i)],mkH 2 [(0,.box [.val (.slice ac) t0.1]),(1,.row aa 3 0)]⟩
theorem ON (fuel n6:Nat):m6 fuel (n6+1)=lZ true (sm bg) (m6 fuel n6):=by kernel_rfl
theorem OO : ∀ n,m6 FU n=mp5 bg (m7 n):=bo (by kernel_rfl) fun n6 _ h=>(ON FU n6).trans (by rw [h]; funext _ _ _ _ _; simp only [lZ,l5,ss])
theorem W4:ar Tryz.prog 107 (Hf):=evX Tryz.func107 (S:=Hg) aW (ah ⟨XW,fD,adY,P5,trivial⟩) (tys:=[(.slice aa)]) (fun fuel x=>tH true (sm bg) (m6 fuel fuel) x.1 x.2.1) (fun x=>by show _=Option.map bg _; rw [OO FU]; simp only [tH,l6,l5,ss])
abbrev fw (β:Type):=(List Int)→Int→Int→Option β
def xe (m:Bool) {β:Type} (K:Bool→Option β) (k_l2:fw β):fw β:=fun l x i=>(bif (decide (i<(il l))) then (ck (bd i l.length) (bif (decide ((ix aa l i)=x)) then (K true) else (fz m aa (w64 (i+1)) fun y2_=>(k_l2 l x y2_)))) else (K false))
def I2 (m:Bool) {β:Type} (K:Bool→Option β) (k_l2:fw β) (l:(List Int)) (x:Int):Option β:=(k_l2 l x 0)
def xd:Nat→fw Bool:=lp (fun _ _ _=>none) fun k_l2=>xe false some k_l2
def pY (l:(List Int)) (x:Int):Option Bool:=I2 false some (xd FU) l x
def yI:Ent:=evE (.cons (.slice aa) (.cons aa .unit)) af (zero .bool) (fun x=>pY x.1 x.2.1)
def Dq:MS:=⟨0,[],[(0,.dat (.slice aa)),(1,.dat aa),(5,.dat aa)]⟩
def I4:Par:=⟨ca.tab,(ay []),(fun _=>ao []),(fun _=>ao [(2,Dq)])⟩
def ahu:KT:=bc ca.tab [.tmp 4] [.bool]
def Zh (fuel lo:Nat) (p:List Nat):Sg→KT→Option AV:=xc (aD fi0 hs0 fuel 0) I4 lo fuel (sub ((Tryz.f81.body).getD .skip) p)
def xb (fuel n:Nat):fw AV:=fun l x i=>aB 0 Dq (Zh fuel 0 [1,0,1,0,0]) (ai 0 (aw 0 none (Zh fuel 0 [1,1]) ahu)) n ⟨mkE 18 [(0,.val (.slice aa) l),(1,.val aa x),(5,.val aa i)],mkH 0 []⟩
theorem Zf (fuel n2:Nat):xb fuel (n2+1)=xe true (sm af) (xb fuel n2):=by kernel_rfl
theorem Zg : ∀ n,xb FU n=mp3 af (xd n):=bo (by kernel_rfl) fun n2 _ h=>(Zf FU n2).trans (by rw [h]; funext _ _ _; simp only [xe,ss])
theorem Dp:ar Tryz.prog 81 (yI):=evX Tryz.func81 (S:=I4) aW (ah trivial) (tys:=[.bool]) (fun fuel x=>I2 true (sm af) (xb fuel fuel) x.1 x.2.1) (fun x=>by show _=Option.map af _; rw [Zg FU]; simp only [I2,pY,ss])
def wj (m:Bool) {β:Type} (K:(List Int)→Option β) (k_l2:fw β):fw β:=fun l x t5=>(nq m [2] (decide (t5>0)) (nm m 2 (decide (t5>0)) (bd (w64 (t5-1)) l.length) (nq m [2,3,1] (decide (t5>0)) (bif (bif (decide (t5>0)) then (decide ((ix aa l (w64 (t5-1)))≥x)) else false) then (ck (bd (w64 (t5-1)) l.length) (bif (decide ((ix aa l (w64 (t5-1)))=x)) then (K l) else (fz m aa (w64 (t5-1)) fun y2_=>(k_l2 l x y2_)))) else (ck (decide (0≤t5)&&decide (t5≤(l.length:Int))) (ck (lm (List.length ([]:List Int)+List.length ((List.take (Int.toNat t5) l).drop 0))) (ck (lm (List.length ([]++((List.take (Int.toNat t5) l).drop 0))+List.length ([x]:List Int))) (ck (decide (0≤t5)&&decide (t5≤(l.length:Int))) (ck (lm (List.length (([]++((List.take (Int.toNat t5) l).drop 0))++[x])+List.length ((List.take (List.length l) l).drop (Int.toNat t5)))) (K ((([]++((List.take (Int.toNat t5) l).drop 0))++[x])++((List.take (List.length l) l).drop (Int.toNat t5)))))))))))))
def Im (m:Bool) {β:Type} (K:(List Int)→Option β) (k_l2:fw β) (l:(List Int)) (x:Int):Option β:=(fz m aa (il l) fun y2_=>(k_l2 l x y2_))
def wi:Nat→fw (List Int):=lp (fun _ _ _=>none) fun k_l2=>wj false some k_l2
def sJ (l:(List Int)) (x:Int):Option (List Int):=Im false some (wi FU) l x
def Qa:Ent:=evE (.cons (.slice aa) (.cons aa .unit)) bg (zero (.slice aa)) (fun x=>sJ x.1 x.2.1)
def Yv (fuel lo:Nat) (p:List Nat):Sg→KT→Option AV:=xc (aD fi0 hs0 fuel 0) I4 lo fuel (sub ((Tryz.f60.body).getD .skip) p)
def wh (fuel n:Nat):fw AV:=fun l x t5=>aB 0 Dq (Yv fuel 0 [1,1,0,0,0]) (ai 0 (aw 0 none (Yv fuel 0 [1,1,1]) tI)) n ⟨mkE 44 [(0,.val (.slice aa) l),(1,.val aa x),(5,.val aa t5)],mkH 0 []⟩
theorem Yt (fuel n2:Nat):wh fuel (n2+1)=wj true (sm bg) (wh fuel n2):=by kernel_rfl
theorem Yu : ∀ n,wh FU n=mp3 bg (wi n):=bo (by kernel_rfl) fun n2 _ h=>(Yt FU n2).trans (by rw [h]; funext _ _ _; simp only [wj,ss])
theorem Ys:ar Tryz.prog 60 (Qa):=evX Tryz.func60 (S:=I4) aW (ah trivial) (tys:=[(.slice aa)]) (fun fuel x=>Im true (sm bg) (wh fuel fuel) x.1 x.2.1) (fun x=>by show _=Option.map bg _; rw [Yu FU]; simp only [Im,sJ,ss])
abbrev ly (β:Type):=(List Int)→Int→Option β
def oG (m:Bool) {β:Type} (K:Bool→Option β) (k_l2:ly β):ly β:=fun l i=>(bif (decide (i<(il l))) then (ck (bd i l.length) (cl m .bool (cH (ix aa l i)) fun r1=>(nq m [2,2] (!(!r1)) (nm m 2 ((!(!r1))&&(decide (i>0))) (bd i l.length) (nq m [2,2] ((!(!r1))&&(decide (i>0))) (nm m 2 ((!(!r1))&&(decide (i>0))) (bd (w64 (i-1)) l.length) (nq m [2,3] ((!(!r1))&&(decide (i>0))) (nm m 0 (!(!r1)) ((ii ((!(!r1))&&(decide (i>0))))&&true) (nq m [0] (!(!r1)) (bif (bif (!r1) then true else (bif (decide (i>0)) then (decide ((ix aa l i)≤(ix aa l (w64 (i-1))))) else false)) then (K false) else (fz m aa (w64 (i+1)) fun y1_=>(k_l2 l y1_)))))))))))) else (K true))
def w4 (m:Bool) {β:Type} (K:Bool→Option β) (k_l2:ly β) (l:(List Int)):Option β:=(k_l2 l 0)
def pS:Nat→ly Bool:=lp (fun _ _=>none) fun k_l2=>oG false some k_l2
def kn (l:(List Int)):Option Bool:=w4 false some (pS FU) l
def Ny:Ent:=evE (.cons (.slice aa) .unit) af (zero .bool) (fun x=>kn x.1)
def Dj:MS:=⟨0,[],[(0,.dat (.slice aa)),(3,.dat aa)]⟩
def Nz:Par:=⟨ca.tab,(ay [(109,er)]),(fun _=>ao []),(fun _=>ao [(2,Dj)])⟩
def NA (fuel lo:Nat) (p:List Nat):Sg→KT→Option AV:=xc (aD fi0 hs0 fuel 0) Nz lo fuel (sub ((Tryz.f110.body).getD .skip) p)
def pR (fuel n:Nat):ly AV:=fun l i=>aB 0 Dj (NA fuel 0 [1,0,1,0,0]) (ai 0 (aw 0 none (NA fuel 0 [1,1]) gZ)) n ⟨mkE 32 [(0,.val (.slice aa) l),(3,.val aa i)],mkH 0 []⟩
theorem QR (fuel n2:Nat):pR fuel (n2+1)=oG true (sm af) (pR fuel n2):=by kernel_rfl
theorem QS : ∀ n,pR FU n=mp2 af (pS n):=bo (by kernel_rfl) fun n2 _ h=>(QR FU n2).trans (by rw [h]; funext _ _; simp only [oG,ss])
theorem Za:ar Tryz.prog 110 (Ny):=evX Tryz.func110 (S:=Nz) aW (ah ⟨fD,trivial⟩) (tys:=[.bool]) (fun fuel x=>w4 true (sm af) (pR fuel fuel) x.1) (fun x=>by show _=Option.map af _; rw [QS FU]; simp only [w4,kn,ss])
abbrev iZ (β:Type):=ae.den→Int→Option β
def lf (m:Bool) {β:Type} (K:Bool→Option β) (k_l4:iZ β):iZ β:=fun c i=>(bif (decide (i<(il c.2.2.2.1))) then (ck (bd i c.2.2.2.1.length) (nq m [2] (!(decide ((ixs c.2.2.2.1 i)<32))) (nm m 2 (!(decide ((ixs c.2.2.2.1 i)<32))) (bd i c.2.2.2.1.length) (nq m [2,0] (!(decide ((ixs c.2.2.2.1 i)<32))) (bif (bif (decide ((ixs c.2.2.2.1 i)<32)) then true else (decide ((ixs c.2.2.2.1 i)>126))) then (K false) else (fz m aa (w64 (i+1)) fun y1_=>(k_l4 c y1_))))))) else (K true))
def TM (x0:(List Int)):Bool:=(kn x0).isSome
def cg (x0:(List Int)):Bool:=(kn x0).getD (zero .bool)
def zY (x0:(List Int)) (x1:Int):Bool:=(pY x0 x1).isSome
def oL (x0:(List Int)) (x1:Int):Bool:=(pY x0 x1).getD (zero .bool)
def sK (m:Bool) {β:Type} (K:Bool→Option β) (k_l4:iZ β) (c:ae.den):Option β:=(cl m .bool (cH (c.1)) fun r1=>(nq m [2] (!(!r1)) (nm m 1 (!(!r1)) (TM (c.2.1)) (nq m [2,0] (!(!r1)) (nq m [2] (!(bif (!r1) then true else (!(cg (c.2.1))))) (nm m 1 (!(bif (!r1) then true else (!(cg (c.2.1))))) (TM (c.2.2.1)) (nq m [2,0] (!(bif (!r1) then true else (!(cg (c.2.1))))) (nq m [2,2,2,0] (!(bif (bif (!r1) then true else (!(cg (c.2.1)))) then true else (!(cg (c.2.2.1))))) (nq m [2,2,2,0] (!(bif (bif (bif (!r1) then true else (!(cg (c.2.1)))) then true else (!(cg (c.2.2.1)))) then true else (decide ((il c.2.1)>4)))) (nq m [2,2] (!(bif (bif (bif (bif (!r1) then true else (!(cg (c.2.1)))) then true else (!(cg (c.2.2.1)))) then true else (decide ((il c.2.1)>4))) then true else (decide ((il c.2.2.1)>4)))) (nm m 2 (!(bif (bif (bif (bif (!r1) then true else (!(cg (c.2.1)))) then true else (!(cg (c.2.2.1)))) then true else (decide ((il c.2.1)>4))) then true else (decide ((il c.2.2.1)>4)))) (zY (c.2.1) (c.1)) (nq m [0] (!(bif (bif (bif (bif (!r1) then true else (!(cg (c.2.1)))) then true else (!(cg (c.2.2.1)))) then true else (decide ((il c.2.1)>4))) then true else (decide ((il c.2.2.1)>4)))) (nq m [2,2] (!(bif (bif (bif (bif (bif (!r1) then true else (!(cg (c.2.1)))) then true else (!(cg (c.2.2.1)))) then true else (decide ((il c.2.1)>4))) then true else (decide ((il c.2.2.1)>4))) then true else (oL (c.2.1) (c.1)))) (nm m 2 (!(bif (bif (bif (bif (bif (!r1) then true else (!(cg (c.2.1)))) then true else (!(cg (c.2.2.1)))) then true else (decide ((il c.2.1)>4))) then true else (decide ((il c.2.2.1)>4))) then true else (oL (c.2.1) (c.1)))) (zY (c.2.2.1) (c.1)) (nq m [0] (!(bif (bif (bif (bif (bif (!r1) then true else (!(cg (c.2.1)))) then true else (!(cg (c.2.2.1)))) then true else (decide ((il c.2.1)>4))) then true else (decide ((il c.2.2.1)>4))) then true else (oL (c.2.1) (c.1)))) (nq m [2,2,2,0] (!(bif (bif (bif (bif (bif (bif (!r1) then true else (!(cg (c.2.1)))) then true else (!(cg (c.2.2.1)))) then true else (decide ((il c.2.1)>4))) then true else (decide ((il c.2.2.1)>4))) then true else (oL (c.2.1) (c.1))) then true else (oL (c.2.2.1) (c.1)))) (bif (bif (bif (bif (bif (bif (bif (bif (!r1) then true else (!(cg (c.2.1)))) then true else (!(cg (c.2.2.1)))) then true else (decide ((il c.2.1)>4))) then true else (decide ((il c.2.2.1)>4))) then true else (oL (c.2.1) (c.1))) then true else (oL (c.2.2.1) (c.1))) then true else (decide ((il c.2.2.2.1)>80))) then (K false) else (k_l4 c 0))))))))))))))))))
def mM:Nat→iZ Bool:=lp (fun _ _=>none) fun k_l4=>lf false some k_l4
def lg (c:ae.den):Option Bool:=sK false some (mM FU) c
def Ge:Ent:=evE (.cons ae .unit) af (zero .bool) (fun x=>lg x.1)
def zL:MS:=⟨1,[(0,[.dat aa,.dat (.slice aa),.dat (.slice aa),.dat .str,.dat (.slice ac)])],[(1,.keep),(3,.dat aa)]⟩
def Gf:Par:=⟨ca.tab,(ay [(109,er),(110,Ny),(81,yI)]),(fun _=>ao []),(fun _=>ao [(4,zL)])⟩
def Gg (fuel lo:Nat) (p:List Nat):Sg→KT→Option AV:=xc (aD fi0 hs0 fuel 0) Gf lo fuel (sub ((Tryz.f73.body).getD .skip) p)
def mL (fuel n:Nat):iZ AV:=fun c i=>aB 0 zL (Gg fuel 0 [1,1,0,1,0,0]) (ai 0 (aw 0 none (Gg fuel 0 [1,1,1]) gZ)) n ⟨mkE 71 [(1,.box 0 0),(3,.val aa i)],mkH 1 [(0,.box [.val aa c.1,.val (.slice aa) c.2.1,.val (.slice aa) c.2.2.1,.val .str c.2.2.2.1,.val (.slice ac) c.2.2.2.2.1])]⟩
theorem MI (fuel n4:Nat):mL fuel (n4+1)=lf true (sm af) (mL fuel n4):=by kernel_rfl
theorem MJ : ∀ n,mL FU n=mp2 af (mM n):=bo (by kernel_rfl) fun n4 _ h=>(MI FU n4).trans (by rw [h]; funext _ _; simp only [lf,ss])
theorem Vp:ar Tryz.prog 73 (Ge):=evX Tryz.func73 (S:=Gf) aW (ah ⟨fD,Za,Dp,trivial⟩) (tys:=[.bool]) (fun fuel x=>sK true (sm af) (mL fuel fuel) x.1) (fun x=>by show _=Option.map af _; rw [MJ FU]; simp only [sK,lg,ss])
abbrev b8:=(Ty.den (.cons ap (.cons .bool .unit)))
abbrev gl (β:Type):=(List ac.den)→Int→Int→Int→Option β
def em (m:Bool) {β:Type} (K:b8→Option β) (k_l2:gl β):gl β:=fun w id field i=>(bif (decide (i≥0)) then (ck (bd i w.length) (nm m 2 (decide ((ix ac w i).1=id)) (bd i w.length) (nq m [2,2,3,1] (decide ((ix ac w i).1=id)) (bif (bif (decide ((ix ac w i).1=id)) then (decide ((ix ac w i).2.1=field)) else false) then (ck (bd i w.length) (K ((ix ac w i).2.2.1,true,()))) else (fz m aa (w64 (i-1)) fun y3_=>(k_l2 w id field y3_)))))) else (K ((0,false,[],0,()),false,())))
def kv (m:Bool) {β:Type} (K:b8→Option β) (k_l2:gl β) (w:(List ac.den)) (id:Int) (field:Int):Option β:=(fz m aa (w64 ((il w)-1)) fun y3_=>(k_l2 w id field y3_))
def eR:Nat→gl b8:=lp (fun _ _ _ _=>none) fun k_l2=>em false some k_l2
def cG (w:(List ac.den)) (id:Int) (field:Int):Option b8:=kv false some (eR FU) w id field
def bY (r:b8):AV := .tup (br [.val ap r.1,.val .bool r.2.1])
def kw:Ent:=evE (.cons (.slice ac) (.cons aa (.cons aa .unit))) bY (zero (.cons ap (.cons .bool .unit))) (fun x=>cG x.1 x.2.1 x.2.2.1)
def vm:MS:=⟨1,[(0,[.dat aa,.dat .bool,.dat .str,.dat aa])],[(0,.dat (.slice ac)),(1,.dat aa),(2,.dat aa),(6,.keep),(8,.dat aa)]⟩
def BL:Par:=⟨ca.tab,(ay []),(fun _=>ao []),(fun _=>ao [(2,vm)])⟩
def O3:KT:=bc ca.tab [.cell 6 51,.tmp 7] [ap,.bool]
def BM (fuel lo:Nat) (p:List Nat):Sg→KT→Option AV:=xc (aD fi0 hs0 fuel 0) BL lo fuel (sub ((Tryz.f42.body).getD .skip) p)
def jD (fuel n:Nat):gl AV:=fun w id field i=>aB 0 vm (BM fuel 0 [1,0,1,0,0]) (ai 0 (aw 0 none (BM fuel 0 [1,1]) O3)) n ⟨mkE 38 [(0,.val (.slice ac) w),(1,.val aa id),(2,.val aa field),(6,.box 0 0),(8,.val aa i)],mkH 1 [(0,.box [.val aa (0:Int),.val .bool false,.val .str [],.val aa (0:Int)])]⟩
theorem Hw (fuel n2:Nat):jD fuel (n2+1)=em true (sm bY) (jD fuel n2):=by kernel_rfl
theorem Hx : ∀ n,jD FU n=mp4 bY (eR n):=bo (by kernel_rfl) fun n2 _ h=>(Hw FU n2).trans (by rw [h]; funext _ _ _ _; simp only [em,ss])
theorem oW:ar Tryz.prog 42 (kw):=evX Tryz.func42 (S:=BL) aW (ah trivial) (tys:=[ap,.bool]) (fun fuel x=>kv true (sm bY) (jD fuel fuel) x.1 x.2.1 x.2.2.1) (fun x=>by show _=Option.map bY _; rw [Hx FU]; simp only [kv,cG,ss])
def Bf (m:Bool) {β:Type} (K:Int→Option β) (s:au.den) (id:Int):Option β:=(ce m (.slice aK) (cK s id 1) (gQ s id 1) fun r1=>(bif (decide ((il r1)=0)) then (K 0) else (ck (bd 0 r1.length) (K ((ix aK r1 0).2.1.1)))))
def fu (s:au.den) (id:Int):Option Int:=Bf false some s id
def wS:Ent:=evE (.cons au (.cons aa .unit)) ax (zero aa) (fun x=>fu x.1 x.2.1)
def TC:Par:=⟨ca.tab,(ay [(83,BE)]),(fun _=>ao []),(fun _=>ao [])⟩
theorem Be:ar Tryz.prog 64 (wS):=evX Tryz.func64 (S:=TC) aW (ah ⟨KY,trivial⟩) (tys:=[aa]) (fun fuel x=>Bf true (sm ax) x.1 x.2.1) (fun x=>by show _=Option.map ax _; simp only [Bf,fu,ss])
def sW (m:Bool) {β:Type} (K:Int→Option β) (s:au.den) (w:(List ac.den)) (id:Int):Option β:=(cl m aa (fu s id) fun r1=>(bif (!decide (r1=0)) then (K r1) else (cl m (.cons ap (.cons .bool .unit)) (cG w id 1) fun r2=>(K (r2.1.1)))))
def ll (s:au.den) (w:(List ac.den)) (id:Int):Option Int:=sW false some s w id
def Gy:Ent:=evE (.cons au (.cons (.slice ac) (.cons aa .unit))) ax (zero aa) (fun x=>ll x.1 x.2.1 x.2.2.1)
def VY:Par:=⟨ca.tab,(ay [(64,wS),(42,kw)]),(fun _=>ao []),(fun _=>ao [])⟩
theorem VX:ar Tryz.prog 112 (Gy):=evX Tryz.func112 (S:=VY) aW (ah ⟨Be,oW,trivial⟩) (tys:=[aa]) (fun fuel x=>sW true (sm ax) x.1 x.2.1 x.2.2.1) (fun x=>by show _=Option.map ax _; simp only [sW,ll,ss])
def pO (m:Bool) {β:Type} (K:Bool→Option β) (f:Int):Option β:=(nq m [2,1] (decide (f≥1)) (nq m [2,2] (!(bif (decide (f≥1)) then (decide (f≤4)) else false)) (nq m [2] ((!(bif (decide (f≥1)) then (decide (f≤4)) else false))&&(decide (f≥8))) (nm m 0 (!(bif (decide (f≥1)) then (decide (f≤4)) else false)) ((ii ((!(bif (decide (f≥1)) then (decide (f≤4)) else false))&&(decide (f≥8))))&&true) (nq m [0] (!(bif (decide (f≥1)) then (decide (f≤4)) else false)) (K (bif (bif (decide (f≥1)) then (decide (f≤4)) else false) then true else (bif (decide (f≥8)) then (decide (f<48)) else false))))))))
def f7 (f:Int):Option Bool:=pO false some f
def Dh:Ent:=evE (.cons aa .unit) af (zero .bool) (fun x=>f7 x.1)
theorem QN:ar Tryz.prog 111 (Dh):=evX Tryz.func111 (S:=pd) aW (ah trivial) (tys:=[.bool]) (fun fuel x=>pO true (sm af) x.1) (fun x=>by show _=Option.map af _; simp only [pO,f7,ss])
def vD (m:Bool) {β:Type} (K:Bool→Option β) (kind:Int) (field:Int) (v:ap.den):Option β:=(cl m .bool (ik kind field v) fun r1=>(nq m [3,2] r1 (nq m [2,2] (r1&&(!(!eqD ap v (0,false,[],0,())))) (nq m [2] ((r1&&(!(!eqD ap v (0,false,[],0,()))))&&(!decide (field=3))) (nm m 0 (r1&&(!(!eqD ap v (0,false,[],0,())))) ((ii ((r1&&(!(!eqD ap v (0,false,[],0,()))))&&(!decide (field=3))))&&true) (nm m 0 r1 (ii (r1&&(!(!eqD ap v (0,false,[],0,()))))) (nq m [1] r1 (K (bif r1 then (bif (!eqD ap v (0,false,[],0,())) then true else (bif (!decide (field=3)) then (!decide (field=4)) else false)) else false)))))))))
def nS (kind:Int) (field:Int) (v:ap.den):Option Bool:=vD false some kind field v
def LV:Ent:=evE (.cons aa (.cons aa (.cons ap .unit))) af (zero .bool) (fun x=>nS x.1 x.2.1 x.2.2.1)
def XO:Par:=⟨ca.tab,(ay [(137,yV)]),(fun _=>ao []),(fun _=>ao [])⟩
theorem XN:ar Tryz.prog 113 (LV):=evX Tryz.func113 (S:=XO) aW (ah ⟨GX,trivial⟩) (tys:=[.bool]) (fun fuel x=>vD true (sm af) x.1 x.2.1 x.2.2.1) (fun x=>by show _=Option.map af _; simp only [vD,nS,ss])
abbrev iB (β:Type):=ae.den→ac.den→Int→Option β
def jX (m:Bool) {β:Type} (K:Int→Option β) (k_j14:aQ β):iB β:=fun c x need=>(cl m (.cons ap (.cons .bool .unit)) (cG (c.2.2.2.2.1) (x.1) need) fun r5=>(bif (!r5.2.1) then (K 16) else k_j14))
def jW (m:Bool) {β:Type} (K:Int→Option β):aQ β:=(K 0)
def Wa (x0:Int):Bool:=(f7 x0).isSome
def Wb (x0:Int):Bool:=(f7 x0).getD (zero .bool)
def p4 (m:Bool) {β:Type} (K:Int→Option β) (k_j11:iB β) (k_j14:aQ β) (s:au.den) (c:ae.den) (x:ac.den):Option β:=(cl m .bool (cH (x.1)) fun r1=>(nq m [2,2,3,0] (!(!r1)) (nq m [2] (!(bif (!r1) then true else (decide (x.1=c.1)))) (nm m 1 (!(bif (!r1) then true else (decide (x.1=c.1)))) (Wa (x.2.1)) (nq m [2,0] (!(bif (!r1) then true else (decide (x.1=c.1)))) (bif (bif (bif (!r1) then true else (decide (x.1=c.1))) then true else (!(Wb (x.2.1)))) then (K 5) else (cl m aa (fu s (x.1)) fun r2=>(bif (decide (x.2.1=1)) then (nq m [2,2,2,0] (!(decide (x.2.2.1.1<1))) (nq m [2,2,2,2,3,0] (!(bif (decide (x.2.2.1.1<1)) then true else (decide (x.2.2.1.1>5)))) (nq m [2,2] (!(bif (bif (decide (x.2.2.1.1<1)) then true else (decide (x.2.2.1.1>5))) then true else (!eqD ap x.2.2.1 (x.2.2.1.1,false,[],0,())))) (nq m [2,2,3] ((!(bif (bif (decide (x.2.2.1.1<1)) then true else (decide (x.2.2.1.1>5))) then true else (!eqD ap x.2.2.1 (x.2.2.1.1,false,[],0,()))))&&(!decide (r2=0))) (nm m 0 (!(bif (bif (decide (x.2.2.1.1<1)) then true else (decide (x.2.2.1.1>5))) then true else (!eqD ap x.2.2.1 (x.2.2.1.1,false,[],0,())))) ((ii ((!(bif (bif (decide (x.2.2.1.1<1)) then true else (decide (x.2.2.1.1>5))) then true else (!eqD ap x.2.2.1 (x.2.2.1.1,false,[],0,()))))&&(!decide (r2=0))))&&true) (nq m [0] (!(bif (bif (decide (x.2.2.1.1<1)) then true else (decide (x.2.2.1.1>5))) then true else (!eqD ap x.2.2.1 (x.2.2.1.1,false,[],0,())))) (bif (bif (bif (bif (decide (x.2.2.1.1<1)) then true else (decide (x.2.2.1.1>5))) then true else (!eqD ap x.2.2.1 (x.2.2.1.1,false,[],0,()))) then true else (bif (!decide (r2=0)) then (!decide (r2=x.2.2.1.1)) else false)) then (K 10) else (bif (decide (r2=0)) then (bif (decide (x.2.2.1.1=5)) then (k_j11 c x 4) else (k_j11 c x 3)) else k_j14)))))))) else (cl m aa (ll s (c.2.2.2.2.1) (x.1)) fun r3=>(bif (decide (r3=0)) then (K 7) else (cl m .bool (nS r3 (x.2.1) (x.2.2.1)) fun r4=>(bif (!r4) then (K 13) else (K 0)))))))))))))
def fx:aQ Int:=jW false some
def iD:iB Int:=jX false some fx
def jf (s:au.den) (c:ae.den) (x:ac.den):Option Int:=p4 false some iD fx s c x
def Ec:Ent:=evE (.cons au (.cons ae (.cons ac .unit))) ax (zero aa) (fun x=>jf x.1 x.2.1 x.2.2.1)
def Fh:MS:=⟨3,[(0,[.drop]),(1,[.dat aa,.dat (.slice aa),.dat (.slice aa),.dat .str,.dat (.slice ac)]),(2,[.dat aa,.dat aa,.dat aa,.dat .bool,.dat .str,.dat aa])],[(4,.keep),(5,.keep),(8,.dat aa)]⟩
def Ed:Par:=⟨ca.tab,(ay [(109,er),(111,Dh),(64,wS),(112,Gy),(113,LV),(42,kw)]),(fun _=>ao [(11,Fh),(14,bz)]),(fun _=>ao [])⟩
def Ee:KT:=bc ca.tab [.tmp 6] [aa]
def lN (fuel lo:Nat) (p:List Nat):Sg→KT→Option AV:=xc (aD fi0 hs0 fuel 0) Ed lo fuel (sub ((Tryz.f75.body).getD .skip) p)
def nr (fuel:Nat):iB AV:=fun c x need=>(lN fuel 0 [1,1,1,0,1,0,1,0,1,0,1,1]) ⟨mkE 98 [(4,.box 1 0),(5,.box 2 0),(8,.val aa need)],mkH 3 [(0,.box [.unk]),(1,.box [.val aa c.1,.val (.slice aa) c.2.1,.val (.slice aa) c.2.2.1,.val .str c.2.2.2.1,.val (.slice ac) c.2.2.2.2.1]),(2,.box [.val aa x.1,.val aa x.2.1,.val aa x.2.2.1.1,.val .bool x.2.2.1.2.1,.val .str x.2.2.1.2.2.1,.val aa x.2.2.1.2.2.2.1])]⟩ (aw 0 (some bz) (lN fuel 0 [1,1,1,0,1,0,1,1]) (aw 0 none (lN fuel 0 [1,1,1,1]) Ee))
def iC (fuel:Nat):aQ AV:=(lN fuel 0 [1,1,1,0,1,0,1,1]) ⟨mkE 98 [],mkH 0 []⟩ (aw 0 none (lN fuel 0 [1,1,1,1]) Ee)
theorem Fk (fuel:Nat):nr fuel=jX true (sm ax) (iC fuel):=by kernel_rfl
theorem Fj (fuel:Nat):iC fuel=jW true (sm ax):=by kernel_rfl
theorem ul:iC FU=mp0 ax (fx):=(Fj FU).trans (by simp only [jW,fx,ss])
theorem Fl:nr FU=mp3 ax (iD):=(Fk FU).trans (by rw [ul]; funext _ _ _; simp only [jX,iD,ss])
theorem Sc:ar Tryz.prog 75 (Ec):=evX Tryz.func75 (S:=Ed) aW (ah ⟨fD,QN,Be,VX,XN,oW,trivial⟩) (tys:=[aa]) (fun fuel x=>p4 true (sm ax) (nr fuel) (iC fuel) x.1 x.2.1 x.2.2.1) (fun x=>by show _=Option.map ax _; rw [Fl,ul]; simp only [p4,jf,ss])
def eJ (m:Bool) {β:Type} (K:Bool→Option β) (k_l2:bP β):bP β:=fun l i=>(bif (decide (i<(il l))) then (ck (bd (w64 (i-1)) l.length) (ck (bd (w64 (i-1)) l.length) (ck (bd i l.length) (ck (bd i l.length) (ce m .bool true (jC ((ix ac l (w64 (i-1))).1) ((ix ac l (w64 (i-1))).2.1) ((ix ac l i).1) ((ix ac l i).2.1)) fun r1=>(bif (!r1) then (K false) else (fz m aa (w64 (i+1)) fun y1_=>(k_l2 l y1_)))))))) else (K true))
def pC (m:Bool) {β:Type} (K:Bool→Option β) (k_l2:bP β) (l:(List ac.den)):Option β:=(k_l2 l 1)
def gF:Nat→bP Bool:=lp (fun _ _=>none) fun k_l2=>eJ false some k_l2
def i0 (l:(List ac.den)):Option Bool:=pC false some (gF FU) l
def CQ:Ent:=evE (.cons (.slice ac) .unit) af (zero .bool) (fun x=>i0 x.1)
def CR:Par:=⟨ca.tab,(ay [(85,nb)]),(fun _=>ao []),(fun _=>ao [(2,fQ)])⟩
def CS (fuel lo:Nat) (p:List Nat):Sg→KT→Option AV:=xc (aD fi0 hs0 fuel 0) CR lo fuel (sub ((Tryz.f74.body).getD .skip) p)
def jO (fuel n:Nat):bP AV:=fun l i=>aB 0 fQ (CS fuel 0 [1,0,1,0,0]) (ai 0 (aw 0 none (CS fuel 0 [1,1]) gZ)) n ⟨mkE 34 [(0,.val (.slice ac) l),(3,.val aa i)],mkH 0 []⟩
theorem Iu (fuel n2:Nat):jO fuel (n2+1)=eJ true (sm af) (jO fuel n2):=by kernel_rfl
theorem Iv : ∀ n,jO FU n=mp2 af (gF n):=bo (by kernel_rfl) fun n2 _ h=>(Iu FU n2).trans (by rw [h]; funext _ _; simp only [eJ,ss])
theorem Qf:ar Tryz.prog 74 (CQ):=evX Tryz.func74 (S:=CR) aW (ah ⟨xY,trivial⟩) (tys:=[.bool]) (fun fuel x=>pC true (sm af) (jO fuel fuel) x.1) (fun x=>by show _=Option.map af _; rw [Iv FU]; simp only [pC,i0,ss])
abbrev jg (β:Type):=au.den→ae.den→Int→Option β
def lO (m:Bool) {β:Type} (K:Int→Option β) (k_l6:jg β):jg β:=fun s c i=>(bif (decide (i<(il c.2.2.2.2.1))) then (ck (bd i c.2.2.2.2.1.length) (cl m aa (jf s c (ix ac c.2.2.2.2.1 i)) fun r3=>(bif (!decide (r3=0)) then (K r3) else (fz m aa (w64 (i+1)) fun y2_=>(k_l6 s c y2_))))) else (K 0))
def tu (m:Bool) {β:Type} (K:Int→Option β) (k_l6:jg β) (s:au.den) (c:ae.den):Option β:=(cl m .bool (lg c) fun r1=>(bif (!r1) then (K 5) else (cl m .bool (i0 (c.2.2.2.2.1)) fun r2=>(bif (!r2) then (K 12) else (k_l6 s c 0)))))
def m0:Nat→jg Int:=lp (fun _ _ _=>none) fun k_l6=>lO false some k_l6
def lP (s:au.den) (c:ae.den):Option Int:=tu false some (m0 FU) s c
def GU:Ent:=evE (.cons au (.cons ae .unit)) ax (zero aa) (fun x=>lP x.1 x.2.1)
def Ak:MS:=⟨2,[(0,[.dat (.slice ak)]),(1,[.dat aa,.dat (.slice aa),.dat (.slice aa),.dat .str,.dat (.slice ac)])],[(2,.keep),(3,.keep),(5,.dat aa)]⟩
def GV:Par:=⟨ca.tab,(ay [(73,Ge),(74,CQ),(75,Ec)]),(fun _=>ao []),(fun _=>ao [(6,Ak)])⟩
def yU:KT:=bc ca.tab [.tmp 4] [aa]
def GW (fuel lo:Nat) (p:List Nat):Sg→KT→Option AV:=xc (aD fi0 hs0 fuel 0) GV lo fuel (sub ((Tryz.f28.body).getD .skip) p)
def mZ (fuel n:Nat):jg AV:=fun s c i=>aB 0 Ak (GW fuel 0 [1,1,1,0,1,0,0]) (ai 0 (aw 0 none (GW fuel 0 [1,1,1,1]) yU)) n ⟨mkE 32 [(2,.box 0 0),(3,.box 1 0),(5,.val aa i)],mkH 2 [(0,.box [.val (.slice ak) s.1]),(1,.box [.val aa c.1,.val (.slice aa) c.2.1,.val (.slice aa) c.2.2.1,.val .str c.2.2.2.1,.val (.slice ac) c.2.2.2.2.1])]⟩
theorem N5 (fuel n6:Nat):mZ fuel (n6+1)=lO true (sm ax) (mZ fuel n6):=by kernel_rfl
theorem N6 : ∀ n,mZ FU n=mp3 ax (m0 n):=bo (by kernel_rfl) fun n6 _ h=>(N5 FU n6).trans (by rw [h]; funext _ _ _; simp only [lO,ss])
theorem WJ:ar Tryz.prog 28 (GU):=evX Tryz.func28 (S:=GV) aW (ah ⟨Vp,Qf,Sc,trivial⟩) (tys:=[aa]) (fun fuel x=>tu true (sm ax) (mZ fuel fuel) x.1 x.2.1) (fun x=>by show _=Option.map ax _; rw [N6 FU]; simp only [tu,lP,ss])
abbrev gM:=(Ty.den (.cons ae (.cons .bool .unit)))
abbrev lQ (β:Type):=(List ae.den)→Int→Int→Option β
def oR (m:Bool) {β:Type} (K:gM→Option β) (k_l2:lQ β):lQ β:=fun l stamp i=>(bif (decide (i<(il l))) then (ck (bd i l.length) (bif (decide ((ix ae l i).1=stamp)) then (ck (bd i l.length) (K ((ix ae l i),true,()))) else (fz m aa (w64 (i+1)) fun y2_=>(k_l2 l stamp y2_)))) else (K ((0,[],[],[],[],()),false,())))
def xC (m:Bool) {β:Type} (K:gM→Option β) (k_l2:lQ β) (l:(List ae.den)) (stamp:Int):Option β:=(k_l2 l stamp 0)
def p8:Nat→lQ gM:=lp (fun _ _ _=>none) fun k_l2=>oR false some k_l2
def ku (l:(List ae.den)) (stamp:Int):Option gM:=xC false some (p8 FU) l stamp
def ji (r:gM):AV := .tup (br [.val ae r.1,.val .bool r.2.1])
def Ej:Ent:=evE (.cons (.slice ae) (.cons aa .unit)) ji (zero (.cons ae (.cons .bool .unit))) (fun x=>ku x.1 x.2.1)
def Ei:MS:=⟨1,[(0,[.dat aa,.own aa 3,.own aa 3,.dat .str,.own ac 86])],[(0,.dat (.slice ae)),(1,.dat aa),(4,.keep),(6,.dat aa)]⟩
def N9:Par:=⟨ca.tab,(ay []),(fun _=>ao []),(fun _=>ao [(2,Ei)])⟩
def abv:KT:=bc ca.tab [.cell 4 26,.tmp 5] [ae,.bool]
def Oa (fuel lo:Nat) (p:List Nat):Sg→KT→Option AV:=xc (aD fi0 hs0 fuel 0) N9 lo fuel (sub ((Tryz.f58.body).getD .skip) p)
def p7 (fuel n:Nat):lQ AV:=fun l stamp i=>aB 0 Ei (Oa fuel 0 [1,0,1,0,0]) (ai 0 (aw 0 none (Oa fuel 0 [1,1]) abv)) n ⟨mkE 25 [(0,.val (.slice ae) l),(1,.val aa stamp),(4,.box 0 0),(6,.val aa i)],mkH 4 [(0,.box [.val aa (0:Int),.own 1 0 aa [],.own 2 0 aa [],.val .str [],.own 3 0 ac []]),(1,.row aa 3 0),(2,.row aa 3 0),(3,.row ac 86 0)]⟩
theorem Si (fuel n2:Nat):p7 fuel (n2+1)=oR true (sm ji) (p7 fuel n2):=by kernel_rfl
theorem Sj : ∀ n,p7 FU n=mp3 ji (p8 n):=bo (by kernel_rfl) fun n2 _ h=>(Si FU n2).trans (by rw [h]; funext _ _ _; simp only [oR,ss])
theorem N8:ar Tryz.prog 58 (Ej):=evX Tryz.func58 (S:=N9) aW (ah trivial) (tys:=[ae,.bool]) (fun fuel x=>xC true (sm ji) (p7 fuel fuel) x.1 x.2.1) (fun x=>by show _=Option.map ji _; rw [Sj FU]; simp only [xC,ku,ss])
abbrev rL (β:Type):=(List ae.den)→(List Int)→Nat→(List Int)→Option β
def xT (m:Bool) {β:Type} (K:(List Int)→Option β) (k_l3:rL β):rL β:=fun l out todo_hi todo=>(bif (decide ((ni todo_hi)>0)) then (ck (decide (0≤(w64 ((ni todo_hi)-1)))&&decide ((w64 ((ni todo_hi)-1))<(ni todo_hi))) (ck (decide (0≤(w64 ((ni todo_hi)-1)))&&decide ((w64 ((ni todo_hi)-1))≤(ni todo_hi))) (cl m (.cons ae (.cons .bool .unit)) (ku l (List.getD todo (0+Int.toNat (w64 ((ni todo_hi)-1))) (zero aa))) fun r1=>(nm m 2 (!(!r1.2.1)) (zY out (List.getD todo (0+Int.toNat (w64 ((ni todo_hi)-1))) (zero aa))) (nq m [0] (!(!r1.2.1)) (bif (bif (!r1.2.1) then true else (oL out (List.getD todo (0+Int.toNat (w64 ((ni todo_hi)-1))) (zero aa)))) then (fm m (0+(Int.toNat (w64 ((ni todo_hi)-1)))) fun y2_=>(k_l3 l out y2_ todo)) else (cl m (.slice aa) (sJ out (List.getD todo (0+Int.toNat (w64 ((ni todo_hi)-1))) (zero aa))) fun r2=>(ck (lm ((0+(Int.toNat (w64 ((ni todo_hi)-1))))+List.length r1.1.2.1)) (fm m ((0+(Int.toNat (w64 ((ni todo_hi)-1))))+List.length r1.1.2.1) fun y2_=>(fz m (.slice aa) (List.take (0+(Int.toNat (w64 ((ni todo_hi)-1)))) todo++r1.1.2.1) fun y3_=>(k_l3 l r2 y2_ y3_))))))))))) else (K out))
def KW (m:Bool) {β:Type} (K:(List Int)→Option β) (k_l3:rL β) (l:(List ae.den)) (stamps:(List Int)):Option β:=(ck (lm (0+List.length stamps)) (fm m (0+List.length stamps) fun y2_=>(fz m (.slice aa) (List.take 0 []++stamps) fun y3_=>(k_l3 l [] y2_ y3_))))
def xS:Nat→rL (List Int):=lp (fun _ _ _ _=>none) fun k_l3=>xT false some k_l3
def m9 (l:(List ae.den)) (stamps:(List Int)):Option (List Int):=KW false some (xS FU) l stamps
def KX:Ent:=evE (.cons (.slice ae) (.cons (.slice aa) .unit)) bg (zero (.slice aa)) (fun x=>m9 x.1 x.2.1)
def OS:MS:=⟨0,[],[(0,.dat (.slice ae)),(5,.dat (.slice aa)),(6,.mut aa 3)]⟩
def ack:Par:=⟨LU.tab,(ay [(58,Ej),(81,yI),(60,Qa)]),(fun _=>ao []),(fun _=>ao [(3,OS)])⟩
def ajM:KT:=bc LU.tab [.tmp 4] [(.slice aa)]
def acl (fuel lo:Nat) (p:List Nat):Sg→KT→Option AV:=xc (aD fi0 hs0 fuel 0) ack lo fuel (sub ((Tryz.f37.body).getD .skip) p)
def xR (fuel n:Nat):rL AV:=fun l out todo_hi todo=>aB 0 OS (acl fuel 0 [1,1,1,0,0,0]) (ai 0 (aw 0 none (acl fuel 0 [1,1,1,1]) ajM)) n ⟨mkE 48 [(0,.val (.slice ae) l),(5,.val (.slice aa) out),(6,.msl 0 0 0 todo_hi)],mkH 1 [(0,.mrow aa 3 0 todo)]⟩
theorem aci (fuel n3:Nat):xR fuel (n3+1)=xT true (sm bg) (xR fuel n3):=by kernel_rfl
theorem acj : ∀ n,xR FU n=mp4 bg (xS n):=bo (by kernel_rfl) fun n3 _ h=>(aci FU n3).trans (by rw [h]; funext _ _ _ _; simp only [xT,ss])
theorem SK:ar Tryz.prog 37 (KX):=evX Tryz.func37 (S:=ack) LT (ah ⟨N8,Dp,Ys,trivial⟩) (tys:=[(.slice aa)]) (fun fuel x=>KW true (sm bg) (xR fuel fuel) x.1 x.2.1) (fun x=>by show _=Option.map bg _; rw [acj FU]; simp only [KW,m9,ss])
def alL (x0:(List ae.den)) (x1:(List Int)):Bool:=(m9 x0 x1).isSome
def agJ (x0:(List ae.den)) (x1:(List Int)):(List Int):=(m9 x0 x1).getD (zero (.slice aa))
def tJ (m:Bool) {β:Type} (K:Bool→Option β) (l:(List ae.den)) (a:Int) (b:Int):Option β:=(nq m [1] (!decide (a=b)) (nm m 2 (!decide (a=b)) (alL l [b]) (nm m 2 (!decide (a=b)) (zY (agJ l [b]) a) (nq m [1] (!decide (a=b)) (K (bif (!decide (a=b)) then (oL (agJ l [b]) a) else false))))))
def l8 (l:(List ae.den)) (a:Int) (b:Int):Option Bool:=tJ false some l a b
def Hi:Ent:=evE (.cons (.slice ae) (.cons aa (.cons aa .unit))) af (zero .bool) (fun x=>l8 x.1 x.2.1 x.2.2.1)
def W6:Par:=⟨ca.tab,(ay [(37,KX),(81,yI)]),(fun _=>ao []),(fun _=>ao [])⟩
theorem W5:ar Tryz.prog 59 (Hi):=evX Tryz.func59 (S:=W6) aW (ah ⟨SK,Dp,trivial⟩) (tys:=[.bool]) (fun fuel x=>tJ true (sm af) x.1 x.2.1 x.2.2.1) (fun x=>by show _=Option.map af _; simp only [tJ,l8,ss])
abbrev eV (β:Type):=(List ae.den)→(List Int)→(List Int)→Int→Option β
abbrev ka (β:Type):=(List ae.den)→(List Int)→(List Int)→Int→Bool→Int→Option β
abbrev UY (β:Type):=(List ae.den)→(List Int)→(List Int)→Int→Int→Bool→Option β
abbrev UZ (β:Type):=(List ae.den)→(List Int)→Int→(List Int)→Option β
def qA (m:Bool) {β:Type} (K:(List Int)→Option β) (k_l7:ka β):eV β:=fun l stamps out i=>(bif (decide (i<(il stamps))) then (ck (bd i stamps.length) (cl m (.cons ae (.cons .bool .unit)) (ku l (ix aa stamps i)) fun r1=>(k_l7 l stamps out i (r1.2.1) 0))) else (K out))
def nQ (m:Bool) {β:Type} (K:(List Int)→Option β) (k_l7:ka β):UY β:=fun l stamps out i t9 ok=>(fz m aa (w64 (t9+1)) fun y5_=>(k_l7 l stamps out i ok y5_))
def nR (m:Bool) {β:Type} (K:(List Int)→Option β) (k_l3:eV β):UZ β:=fun l stamps i out=>(fz m aa (w64 (i+1)) fun y3_=>(k_l3 l stamps out y3_))
def qz (m:Bool) {β:Type} (K:(List Int)→Option β) (k_l7:ka β) (k_l3:eV β):ka β:=fun l stamps out i ok t9=>(nq m [2,3,1] ok (bif (bif ok then (decide (t9<(il stamps))) else false) then (ck (bd i stamps.length) (ck (bd t9 stamps.length) (cl m .bool (l8 l (ix aa stamps i) (ix aa stamps t9)) fun r2=>(bif r2 then (nQ m K k_l7 l stamps out i t9 false) else (nQ m K k_l7 l stamps out i t9 ok))))) else (bif ok then (ck (bd i stamps.length) (cl m (.slice aa) (sJ out (ix aa stamps i)) fun r3=>(nR m K k_l3 l stamps i r3))) else (nR m K k_l3 l stamps i out))))
def AQ (m:Bool) {β:Type} (K:(List Int)→Option β) (k_l3:eV β) (l:(List ae.den)) (stamps:(List Int)):Option β:=(k_l3 l stamps [] 0)
def nO (k_l3:eV (List Int)):Nat→ka (List Int):=lp (fun _ _ _ _ _ _=>none) fun k_l7=>qz false some k_l7 k_l3
def sw:Nat→eV (List Int):=lp (fun _ _ _ _=>none) fun k_l3=>qA false some (nO k_l3 FU)
def qB (l:(List ae.den)) (stamps:(List Int)):Option (List Int):=AQ false some (sw FU) l stamps
def S8:Ent:=evE (.cons (.slice ae) (.cons (.slice aa) .unit)) bg (zero (.slice aa)) (fun x=>qB x.1 x.2.1)
def nN:MS:=⟨0,[],[(0,.dat (.slice ae)),(1,.dat (.slice aa)),(5,.dat (.slice aa)),(6,.dat aa)]⟩
def ye:MS:=⟨0,[],[(0,.dat (.slice ae)),(1,.dat (.slice aa)),(5,.dat (.slice aa)),(6,.dat aa),(8,.dat .bool),(9,.dat aa)]⟩
def S9:Par:=⟨ca.tab,(ay [(58,Ej),(59,Hi),(60,Qa)]),(fun _=>ao [(8,ye),(4,nN)]),(fun _=>ao [(3,nN),(7,ye)])⟩
def pf (fuel lo:Nat) (p:List Nat):Sg→KT→Option AV:=xc (aD fi0 hs0 fuel 0) S9 lo fuel (sub ((Tryz.f25.body).getD .skip) p)
def nP (fuel n:Nat):eV AV:=fun l stamps out i=>aB 0 nN (pf fuel 0 [1,1,0,1,0,0]) (ai 0 (aw 0 none (pf fuel 0 [1,1,1]) tI)) n ⟨mkE 52 [(0,.val (.slice ae) l),(1,.val (.slice aa) stamps),(5,.val (.slice aa) out),(6,.val aa i)],mkH 0 []⟩
def su (fuel n3 n:Nat):ka AV:=fun l stamps out i ok t9=>aB 0 ye (pf fuel 0 [1,1,0,1,0,0,1,0,0,1,0,1,0,0]) (ai 2 (aw 0 none (pf fuel 0 [1,1,0,1,0,0,1,0,0,1,1]) (ai 1 (aw 0 (some nN) (pf fuel 0 [1,1,0,1,0,0,1,1]) (kLp 0 nN (pf fuel 0 [1,1,0,1,0,0]) (ai 0 (aw 0 none (pf fuel 0 [1,1,1]) tI)) n3))))) n ⟨mkE 52 [(0,.val (.slice ae) l),(1,.val (.slice aa) stamps),(5,.val (.slice aa) out),(6,.val aa i),(8,.val .bool ok),(9,.val aa t9)],mkH 0 []⟩
theorem U2 (fuel n3:Nat):nP fuel (n3+1)=qA true (sm bg) (su fuel n3 fuel):=by kernel_rfl
theorem U0 (fuel n3 n7:Nat):su fuel n3 (n7+1)=qz true (sm bg) (su fuel n3 n7) (nP fuel n3):=by kernel_rfl
theorem U1 (n3:Nat) {k_l3:eV (List Int)} (h_l3:nP FU n3=mp4 bg k_l3) : ∀ n,su FU n3 n=mp6 bg (nO k_l3 n):=bo (by kernel_rfl) fun n7 _ h=>(U0 FU n3 n7).trans (by rw [h,h_l3]; funext _ _ _ _ _ _; simp only [qz,nR,nQ,ss])
theorem U3 : ∀ n,nP FU n=mp4 bg (sw n):=bo (by kernel_rfl) fun n3 _ h=>(U2 FU n3).trans (by rw [U1 n3 h FU]; funext _ _ _ _; simp only [qA,nR,nQ,ss])
theorem acX:ar Tryz.prog 25 (S8):=evX Tryz.func25 (S:=S9) aW (ah ⟨N8,W5,Ys,trivial⟩) (tys:=[(.slice aa)]) (fun fuel x=>AQ true (sm bg) (nP fuel fuel) x.1 x.2.1) (fun x=>by show _=Option.map bg _; rw [U3 FU]; simp only [AQ,qB,nR,nQ,ss])
abbrev dQ (β:Type):=(List ae.den)→(List Int)→Int→Option β
abbrev lA (β:Type):=(List ae.den)→(List Int)→Int→Bool→Int→Option β
abbrev QV (β:Type):=(List ae.den)→Int→(List Int)→Option β
def oJ (m:Bool) {β:Type} (K:(List Int)→Option β) (k_l7:lA β):dQ β:=fun l out i=>(bif (decide (i<(il l))) then (k_l7 l out i true 0) else (K out))
def kq (m:Bool) {β:Type} (K:(List Int)→Option β) (k_l3:dQ β):QV β:=fun l i out=>(fz m aa (w64 (i+1)) fun y2_=>(k_l3 l out y2_))
def oI (m:Bool) {β:Type} (K:(List Int)→Option β) (k_l7:lA β) (k_l3:dQ β):lA β:=fun l out i head t6=>(bif (decide (t6<(il l))) then (nm m 2 head (bd t6 l.length) (nq m [2,2] head (nm m 2 head (bd i l.length) (nq m [2,2] head (nm m 2 head (zY ((ix ae l t6).2.1) ((ix ae l i).1)) (nq m [2,1] head (fz m .bool (bif head then (!(oL ((ix ae l t6).2.1) ((ix ae l i).1))) else false) fun y3_=>(fz m aa (w64 (t6+1)) fun y4_=>(k_l7 l out i y3_ y4_))))))))) else (bif head then (ck (bd i l.length) (ck (lm (List.length out+List.length ([(ix ae l i).1]:List Int))) (fz m (.slice aa) (out++[(ix ae l i).1]) fun y2_=>(kq m K k_l3 l i y2_)))) else (kq m K k_l3 l i out)))
def w7 (m:Bool) {β:Type} (K:(List Int)→Option β) (k_l3:dQ β) (l:(List ae.den)):Option β:=(k_l3 l [] 0)
def lC (k_l3:dQ (List Int)):Nat→lA (List Int):=lp (fun _ _ _ _ _=>none) fun k_l7=>oI false some k_l7 k_l3
def pX:Nat→dQ (List Int):=lp (fun _ _ _=>none) fun k_l3=>oJ false some (lC k_l3 FU)
def oK (l:(List ae.den)):Option (List Int):=w7 false some (pX FU) l
def NC:Ent:=evE (.cons (.slice ae) .unit) bg (zero (.slice aa)) (fun x=>oK x.1)
def lB:MS:=⟨0,[],[(0,.dat (.slice ae)),(3,.own aa 3),(4,.dat aa)]⟩
def Do:MS:=⟨0,[],[(0,.dat (.slice ae)),(3,.own aa 3),(4,.dat aa),(5,.dat .bool),(6,.dat aa)]⟩
def ND:Par:=⟨ca.tab,(ay [(81,yI)]),(fun _=>ao [(4,lB)]),(fun _=>ao [(3,lB),(7,Do)])⟩
def lE (fuel lo:Nat) (p:List Nat):Sg→KT→Option AV:=xc (aD fi0 hs0 fuel 0) ND lo fuel (sub ((Tryz.f79.body).getD .skip) p)
def lD (fuel n:Nat):dQ AV:=fun l out i=>aB 0 lB (lE fuel 0 [1,1,0,1,0,0]) (ai 0 (aw 0 none (lE fuel 0 [1,1,1]) IW)) n ⟨mkE 44 [(0,.val (.slice ae) l),(3,.own 0 0 aa out),(4,.val aa i)],mkH 1 [(0,.row aa 3 0)]⟩
def pW (fuel n3 n:Nat):lA AV:=fun l out i head t6=>aB 0 Do (lE fuel 0 [1,1,0,1,0,0,1,0,0,1,0,1,0,0]) (ai 2 (aw 0 none (lE fuel 0 [1,1,0,1,0,0,1,0,0,1,1]) (ai 1 (aw 0 (some lB) (lE fuel 0 [1,1,0,1,0,0,1,1]) (kLp 0 lB (lE fuel 0 [1,1,0,1,0,0]) (ai 0 (aw 0 none (lE fuel 0 [1,1,1]) IW)) n3))))) n ⟨mkE 44 [(0,.val (.slice ae) l),(3,.own 0 0 aa out),(4,.val aa i),(5,.val .bool head),(6,.val aa t6)],mkH 1 [(0,.row aa 3 0)]⟩
theorem QY (fuel n3:Nat):lD fuel (n3+1)=oJ true (sm bg) (pW fuel n3 fuel):=by kernel_rfl
theorem QW (fuel n3 n7:Nat):pW fuel n3 (n7+1)=oI true (sm bg) (pW fuel n3 n7) (lD fuel n3):=by kernel_rfl
theorem QX (n3:Nat) {k_l3:dQ (List Int)} (h_l3:lD FU n3=mp3 bg k_l3) : ∀ n,pW FU n3 n=mp5 bg (lC k_l3 n):=bo (by kernel_rfl) fun n7 _ h=>(QW FU n3 n7).trans (by rw [h,h_l3]; funext _ _ _ _ _; simp only [oI,kq,ss])
theorem QZ : ∀ n,lD FU n=mp3 bg (pX n):=bo (by kernel_rfl) fun n3 _ h=>(QY FU n3).trans (by rw [QX n3 h FU]; funext _ _ _; simp only [oJ,kq,ss])
theorem Zc:ar Tryz.prog 79 (NC):=evX Tryz.func79 (S:=ND) aW (ah ⟨Dp,trivial⟩) (tys:=[(.slice aa)]) (fun fuel x=>w7 true (sm bg) (lD fuel fuel) x.1) (fun x=>by show _=Option.map bg _; rw [QZ FU]; simp only [w7,oK,kq,ss])
def mh (m:Bool) {β:Type} (K:Bool→Option β) (c:ae.den) (id:Int) (field:Int):Option β:=(cl m (.cons ap (.cons .bool .unit)) (cG (c.2.2.2.2.1) id field) fun r1=>(K (r1.2.1)))
def eS (c:ae.den) (id:Int) (field:Int):Option Bool:=mh false some c id field
def zo:Ent:=evE (.cons ae (.cons aa (.cons aa .unit))) af (zero .bool) (fun x=>eS x.1 x.2.1 x.2.2.1)
def Lj:Par:=⟨ca.tab,(ay [(42,kw)]),(fun _=>ao []),(fun _=>ao [])⟩
theorem Li:ar Tryz.prog 82 (zo):=evX Tryz.func82 (S:=Lj) aW (ah ⟨oW,trivial⟩) (tys:=[.bool]) (fun fuel x=>mh true (sm af) x.1 x.2.1 x.2.2.1) (fun x=>by show _=Option.map af _; simp only [mh,eS,ss])
abbrev fR (β:Type):=(List ae.den)→(List Int)→(List ae.den)→(List (List Int))→Int→Option β
abbrev Mo (β:Type):=(List ae.den)→(List Int)→Int→(List ae.den)→(List (List Int))→Option β
abbrev cd (β:Type):=(List ae.den)→(List (List Int))→Int→(List ak.den)→Option β
abbrev cF (β:Type):=(List ae.den)→(List (List Int))→Int→Int→(List ak.den)→Option β
abbrev gy (β:Type):=(List ae.den)→(List (List Int))→Int→Int→(List ak.den)→Bool→Int→Option β
def eH (m:Bool) {β:Type} (K:au.den→Option β) (k_l4:fR β):Mo β:=fun l only i these above=>(fz m aa (w64 (i+1)) fun y4_=>(k_l4 l only these above y4_))
def k7 (m:Bool) {β:Type} (K:au.den→Option β) (k_l4:fR β) (k_l11:cd β):fR β:=fun l only these above i=>(bif (decide (i<(il l))) then (ck (bd i l.length) (cl m .bool (pY only ((ix ae l i).1)) fun r1=>(bif r1 then (ck (bd i l.length) (ck (lm (List.length these+List.length ([(ix ae l i)]:List ae.den))) (ck (bd i l.length) (cl m (.slice aa) (m9 l [(ix ae l i).1]) fun r2=>(ck (lm (List.length above+List.length ([r2]:List (List Int)))) (fz m (.slice ae) (these++[(ix ae l i)]) fun y3_=>(fz m (.slice (.slice aa)) (above++[r2]) fun y4_=>(eH m K k_l4 l only i y3_ y4_)))))))) else (eH m K k_l4 l only i these above)))) else (k_l11 these above 0 []))
def iW (m:Bool) {β:Type} (K:au.den→Option β) (k_l14:cF β):cd β:=fun these above i b7_0=>(bif (decide (i<(il these))) then (k_l14 these above i 0 b7_0) else (K (b7_0,())))
def iV (m:Bool) {β:Type} (K:au.den→Option β) (k_l19:gy β) (k_l11:cd β):cF β:=fun these above i t10 b7_0=>(ck (bd i these.length) (bif (decide (t10<(il ((ix ae these i).2.2.2.2.1)))) then (ck (bd i these.length) (ck (bd t10 ((ix ae these i).2.2.2.2.1).length) (k_l19 these above i t10 b7_0 true 0))) else (fz m aa (w64 (i+1)) fun y2_=>(k_l11 these above y2_ b7_0))))
def dI (m:Bool) {β:Type} (K:au.den→Option β) (k_l14:cF β):cF β:=fun these above i t10 b7_0=>(fz m aa (w64 (t10+1)) fun y3_=>(k_l14 these above i y3_ b7_0))
def BN (x0:ae.den) (x1:Int) (x2:Int):Bool:=(eS x0 x1 x2).isSome
def eq (x0:ae.den) (x1:Int) (x2:Int):Bool:=(eS x0 x1 x2).getD (zero .bool)
def iU (m:Bool) {β:Type} (K:au.den→Option β) (k_l19:gy β) (k_l14:cF β):gy β:=fun these above i t10 b7_0 alive j=>(nq m [1] (decide (j<(il these))) (bif (bif (decide (j<(il these))) then alive else false) then (nm m 2 (!(decide (j=i))) (bd j these.length) (nq m [2,2,2] (!(decide (j=i))) (nm m 3 (!(decide (j=i))) (BN (ix ae these j) ((ix ac (ix ae these i).2.2.2.2.1 t10).1) ((ix ac (ix ae these i).2.2.2.2.1 t10).2.1)) (nq m [2,0] (!(decide (j=i))) (nm m 2 (!(bif (decide (j=i)) then true else (!(eq (ix ae these j) ((ix ac (ix ae these i).2.2.2.2.1 t10).1) ((ix ac (ix ae these i).2.2.2.2.1 t10).2.1))))) (bd j above.length) (nq m [2] (!(bif (decide (j=i)) then true else (!(eq (ix ae these j) ((ix ac (ix ae these i).2.2.2.2.1 t10).1) ((ix ac (ix ae these i).2.2.2.2.1 t10).2.1))))) (nm m 2 (!(bif (decide (j=i)) then true else (!(eq (ix ae these j) ((ix ac (ix ae these i).2.2.2.2.1 t10).1) ((ix ac (ix ae these i).2.2.2.2.1 t10).2.1))))) (bd i these.length) (nq m [2,2] (!(bif (decide (j=i)) then true else (!(eq (ix ae these j) ((ix ac (ix ae these i).2.2.2.2.1 t10).1) ((ix ac (ix ae these i).2.2.2.2.1 t10).2.1))))) (nm m 2 (!(bif (decide (j=i)) then true else (!(eq (ix ae these j) ((ix ac (ix ae these i).2.2.2.2.1 t10).1) ((ix ac (ix ae these i).2.2.2.2.1 t10).2.1))))) (zY (ix (.slice aa) above j) ((ix ae these i).1)) (nq m [2,0] (!(bif (decide (j=i)) then true else (!(eq (ix ae these j) ((ix ac (ix ae these i).2.2.2.2.1 t10).1) ((ix ac (ix ae these i).2.2.2.2.1 t10).2.1))))) (fz m .bool (bif (bif (decide (j=i)) then true else (!(eq (ix ae these j) ((ix ac (ix ae these i).2.2.2.2.1 t10).1) ((ix ac (ix ae these i).2.2.2.2.1 t10).2.1)))) then true else (!(oL (ix (.slice aa) above j) ((ix ae these i).1)))) fun y5_=>(fz m aa (w64 (j+1)) fun y6_=>(k_l19 these above i t10 b7_0 y5_ y6_))))))))))))) else (bif alive then (ce m (.slice aK) (cK (b7_0,()) ((ix ac (ix ae these i).2.2.2.2.1 t10).1) ((ix ac (ix ae these i).2.2.2.2.1 t10).2.1)) (gQ (b7_0,()) ((ix ac (ix ae these i).2.2.2.2.1 t10).1) ((ix ac (ix ae these i).2.2.2.2.1 t10).2.1)) fun r3=>(ck (lm (List.length ([]:List aK.den)+List.length r3)) (ck (bd i these.length) (ck (lm (List.length ([]++r3)+List.length ([((ix ae these i).1,(ix ac (ix ae these i).2.2.2.2.1 t10).2.2.1,())]:List aK.den))) (ce m au (ac8 (b7_0,()) ((ix ac (ix ae these i).2.2.2.2.1 t10).1) ((ix ac (ix ae these i).2.2.2.2.1 t10).2.1) (([]++r3)++[((ix ae these i).1,(ix ac (ix ae these i).2.2.2.2.1 t10).2.2.1,())])) (nl (b7_0,()) ((ix ac (ix ae these i).2.2.2.2.1 t10).1) ((ix ac (ix ae these i).2.2.2.2.1 t10).2.1) (([]++r3)++[((ix ae these i).1,(ix ac (ix ae these i).2.2.2.2.1 t10).2.2.1,())])) fun r4=>(dI m K k_l14 these above i t10 (r4.1))))))) else (dI m K k_l14 these above i t10 b7_0))))
def sF (m:Bool) {β:Type} (K:au.den→Option β) (k_l4:fR β) (l:(List ae.den)) (only:(List Int)):Option β:=(k_l4 l only [] [] 0)
def gA (k_l11:cd au.den) (k_l14:cF au.den):Nat→gy au.den:=lp (fun _ _ _ _ _ _ _=>none) fun k_l19=>iU false some k_l19 k_l14
def gC (k_l11:cd au.den):Nat→cF au.den:=lp (fun _ _ _ _ _=>none) fun k_l14=>iV false some (gA k_l11 k_l14 FU) k_l11
def gD:Nat→cd au.den:=lp (fun _ _ _ _=>none) fun k_l11=>iW false some (gC k_l11 FU)
def iT:Nat→fR au.den:=lp (fun _ _ _ _ _=>none) fun k_l4=>k7 false some k_l4 (gD FU)
def k8 (l:(List ae.den)) (only:(List Int)):Option au.den:=sF false some (iT FU) l only
def bN (r:au.den):AV := .val au r
def F5:Ent:=evE (.cons (.slice ae) (.cons (.slice aa) .unit)) bN (zero au) (fun x=>k8 x.1 x.2.1)
def qL:MS:=⟨1,[(0,[.dat (.slice ak)])],[(0,.dat (.slice ae)),(1,.dat (.slice aa)),(4,.keep),(5,.own ae 26),(6,.own (.slice aa) 23),(7,.dat aa)]⟩
def jK:MS:=⟨8,[(0,[.dat (.slice ak)]),(7,[.dat (.slice ak)])],[(4,.keep),(5,.own ae 26),(6,.own (.slice aa) 23),(8,.keep),(9,.dat aa)]⟩
def gz:MS:=⟨8,[(0,[.dat (.slice ak)]),(7,[.dat (.slice ak)])],[(4,.keep),(5,.own ae 26),(6,.own (.slice aa) 23),(8,.keep),(9,.dat aa),(10,.dat aa)]⟩
def vX:MS:=⟨27,[(0,[.dat (.slice ak)]),(7,[.dat (.slice ak)]),(26,[.dat aa,.dat aa,.dat aa,.dat .bool,.dat .str,.dat aa])],[(4,.keep),(5,.own ae 26),(6,.own (.slice aa) 23),(8,.keep),(9,.dat aa),(10,.dat aa),(11,.keep),(12,.dat .bool),(13,.dat aa)]⟩
def F6:Par:=⟨ca.tab,(ay [(81,yI),(37,KX),(82,zo),(83,BE),(84,PM)]),(fun _=>ao [(5,qL),(15,gz)]),(fun _=>ao [(4,qL),(11,jK),(14,gz),(19,vX)])⟩
def sG:KT:=bc ca.tab [.cell 4 39] [au]
def cB (fuel lo:Nat) (p:List Nat):Sg→KT→Option AV:=xc (aD fi0 hs0 fuel 0) F6 lo fuel (sub ((Tryz.f36.body).getD .skip) p)
def mH (fuel n:Nat):fR AV:=fun l only these above i=>aB 0 qL (cB fuel 0 [1,1,1,0,1,0,0]) (ai 0 (aw 0 none (cB fuel 0 [1,1,1,1]) sG)) n ⟨mkE 134 [(0,.val (.slice ae) l),(1,.val (.slice aa) only),(4,.box 0 0),(5,.own 1 0 ae these),(6,.own 2 0 (.slice aa) above),(7,.val aa i)],mkH 3 [(0,.box [.val (.slice ak) []]),(1,.row ae 26 0),(2,.row (.slice aa) 23 0)]⟩
def eX (fuel n:Nat):cd AV:=fun these above i b7_0=>aB 0 jK (cB fuel 0 [1,1,1,1,1,0,1,0,0]) (ai 2 (aw 0 none (cB fuel 0 [1,1,1,1,1,1]) sG)) n ⟨mkE 134 [(4,.box 0 0),(5,.own 8 0 ae these),(6,.own 9 0 (.slice aa) above),(8,.box 7 0),(9,.val aa i)],mkH 10 [(0,.box [.val (.slice ak) []]),(1,.row ae 26 1),(2,.row (.slice aa) 23 1),(7,.box [.val (.slice ak) b7_0]),(8,.row ae 26 0),(9,.row (.slice aa) 23 0)]⟩
def gB (fuel n11 n:Nat):cF AV:=fun these above i t10 b7_0=>aB 0 gz (cB fuel 0 [1,1,1,1,1,0,1,0,0,1,0,0,1,0,0]) (ai 4 (ai 3 (aw 0 none (cB fuel 0 [1,1,1,1,1,0,1,0,0,1,1]) (kLp 0 jK (cB fuel 0 [1,1,1,1,1,0,1,0,0]) (ai 2 (aw 0 none (cB fuel 0 [1,1,1,1,1,1]) sG)) n11)))) n ⟨mkE 134 [(4,.box 0 0),(5,.own 8 0 ae these),(6,.own 9 0 (.slice aa) above),(8,.box 7 0),(9,.val aa i),(10,.val aa t10)],mkH 10 [(0,.box [.val (.slice ak) []]),(1,.row ae 26 1),(2,.row (.slice aa) 23 1),(7,.box [.val (.slice ak) b7_0]),(8,.row ae 26 0),(9,.row (.slice aa) 23 0)]⟩
def jL (fuel n11 n14 n:Nat):gy AV:=fun these above i t10 b7_0 alive j=>aB 0 vX (cB fuel 0 [1,1,1,1,1,0,1,0,0,1,0,0,1,0,0,1,0,0,1,1,0,1,0,0]) (ai 6 (aw 0 none (cB fuel 0 [1,1,1,1,1,0,1,0,0,1,0,0,1,0,0,1,0,0,1,1,1]) (ai 5 (aw 0 (some gz) (cB fuel 0 [1,1,1,1,1,0,1,0,0,1,0,0,1,0,0,1,1]) (kLp 0 gz (cB fuel 0 [1,1,1,1,1,0,1,0,0,1,0,0,1,0,0]) (ai 4 (ai 3 (aw 0 none (cB fuel 0 [1,1,1,1,1,0,1,0,0,1,1]) (kLp 0 jK (cB fuel 0 [1,1,1,1,1,0,1,0,0]) (ai 2 (aw 0 none (cB fuel 0 [1,1,1,1,1,1]) sG)) n11)))) n14))))) n ⟨mkE 134 [(4,.box 0 0),(5,.own 27 0 ae these),(6,.own 28 0 (.slice aa) above),(8,.box 7 0),(9,.val aa i),(10,.val aa t10),(11,.box 26 0),(12,.val .bool alive),(13,.val aa j)],mkH 29 [(0,.box [.val (.slice ak) []]),(1,.row ae 26 1),(2,.row (.slice aa) 23 1),(7,.box [.val (.slice ak) b7_0]),(8,.row ae 26 1),(9,.row (.slice aa) 23 1),(26,.box [.val aa (ix ac (ix ae these i).2.2.2.2.1 t10).1,.val aa (ix ac (ix ae these i).2.2.2.2.1 t10).2.1,.val aa (ix ac (ix ae these i).2.2.2.2.1 t10).2.2.1.1,.val .bool (ix ac (ix ae these i).2.2.2.2.1 t10).2.2.1.2.1,.val .str (ix ac (ix ae these i).2.2.2.2.1 t10).2.2.1.2.2.1,.val aa (ix ac (ix ae these i).2.2.2.2.1 t10).2.2.1.2.2.2.1]),(27,.row ae 26 0),(28,.row (.slice aa) 23 0)]⟩
theorem Mp (fuel n4:Nat):mH fuel (n4+1)=k7 true (sm bN) (mH fuel n4) (eX fuel fuel):=by kernel_rfl
theorem Ia (fuel n11:Nat):eX fuel (n11+1)=iW true (sm bN) (gB fuel n11 fuel):=by kernel_rfl
theorem H8 (fuel n11 n14:Nat):gB fuel n11 (n14+1)=iV true (sm bN) (jL fuel n11 n14 fuel) (eX fuel n11):=by kernel_rfl
theorem H6 (fuel n11 n14 n19:Nat):jL fuel n11 n14 (n19+1)=iU true (sm bN) (jL fuel n11 n14 n19) (gB fuel n11 n14):=by kernel_rfl
theorem H7 (n11 n14:Nat) {k_l11:cd au.den} (h_l11:eX FU n11=mp4 bN k_l11) {k_l14:cF au.den} (h_l14:gB FU n11 n14=mp5 bN k_l14) : ∀ n,jL FU n11 n14 n=mp7 bN (gA k_l11 k_l14 n):=bo (by kernel_rfl) fun n19 _ h=>(H6 FU n11 n14 n19).trans (by rw [h,h_l14]; funext _ _ _ _ _ _ _; simp only [iU,dI,eH,ss])
theorem H9 (n11:Nat) {k_l11:cd au.den} (h_l11:eX FU n11=mp4 bN k_l11) : ∀ n,gB FU n11 n=mp5 bN (gC k_l11 n):=bo (by kernel_rfl) fun n14 _ h=>(H8 FU n11 n14).trans (by rw [H7 n11 n14 h_l11 h FU,h_l11]; funext _ _ _ _ _; simp only [iV,dI,eH,ss])
theorem Ib : ∀ n,eX FU n=mp4 bN (gD n):=bo (by kernel_rfl) fun n11 _ h=>(Ia FU n11).trans (by rw [H9 n11 h FU]; funext _ _ _ _; simp only [iW,dI,eH,ss])
theorem Mq : ∀ n,mH FU n=mp5 bN (iT n):=bo (by kernel_rfl) fun n4 _ h=>(Mp FU n4).trans (by rw [h,Ib FU]; funext _ _ _ _ _; simp only [k7,dI,eH,ss])
theorem Vj:ar Tryz.prog 36 (F5):=evX Tryz.func36 (S:=F6) aW (ah ⟨Dp,SK,Li,KY,agX,trivial⟩) (tys:=[au]) (fun fuel x=>sF true (sm bN) (mH fuel fuel) x.1 x.2.1) (fun x=>by show _=Option.map bN _; rw [Mq FU]; simp only [sF,k8,dI,eH,ss])
def BC (m:Bool) {β:Type} (K:au.den→Option β) (l:(List ae.den)) (heads:(List Int)):Option β:=(cl m (.slice aa) (m9 l heads) fun r1=>(cl m au (k8 l r1) fun r2=>(K r2)))
def l9 (l:(List ae.den)) (heads:(List Int)):Option au.den:=BC false some l heads
def BD:Ent:=evE (.cons (.slice ae) (.cons (.slice aa) .unit)) bN (zero au) (fun x=>l9 x.1 x.2.1)
def af1:Par:=⟨ca.tab,(ay [(37,KX),(36,F5)]),(fun _=>ao []),(fun _=>ao [])⟩
theorem KV:ar Tryz.prog 17 (BD):=evX Tryz.func17 (S:=af1) aW (ah ⟨SK,Vj,trivial⟩) (tys:=[au]) (fun fuel x=>BC true (sm bN) x.1 x.2.1) (fun x=>by show _=Option.map bN _; simp only [BC,l9,ss])
def AM (m:Bool) {β:Type} (K:Str→Option β) (kind:Int) (x:Int):Option β:=(nq m [2,0] (!(decide (kind=1))) (cl m aa (bC x 5) fun r1=>(bif (decide (r1=0)) then (bif (bif (decide (kind=1)) then true else (decide (kind=3))) then (K [77]) else (K [102])) else (bif (decide (r1=1)) then (bif (bif (decide (kind=1)) then true else (decide (kind=3))) then (K [78]) else (K [103])) else (bif (decide (r1=2)) then (bif (bif (decide (kind=1)) then true else (decide (kind=3))) then (K [84]) else (K [120])) else (bif (decide (r1=3)) then (bif (bif (decide (kind=1)) then true else (decide (kind=3))) then (K [65,98,49]) else (K [121])) else (bif (bif (decide (kind=1)) then true else (decide (kind=3))) then (K [81]) else (K [107,95,50]))))))))
def iI (kind:Int) (x:Int):Option Str:=AM false some kind x
def HK:Ent:=evE (.cons aa (.cons aa .unit)) rj (zero .str) (fun x=>iI x.1 x.2.1)
def AN:Par:=⟨ca.tab,(ay [(7,yB)]),(fun _=>ao []),(fun _=>ao [])⟩
theorem SZ:ar Tryz.prog 65 (HK):=evX Tryz.func65 (S:=AN) aW (ah ⟨qZ,trivial⟩) (tys:=[.str]) (fun fuel x=>AM true (sm rj) x.1 x.2.1) (fun x=>by show _=Option.map rj _; simp only [AM,iI,ss])
def sr (m:Bool) {β:Type} (K:Str→Option β) (x:Int):Option β:=(cl m aa (bC x 5) fun r1=>(bif (decide (r1=0)) then (K [32]) else (bif (decide (r1=1)) then (K [10]) else (bif (decide (r1=2)) then (K [32,35,32,110,111,116,101,10]) else (bif (decide (r1=3)) then (K []) else (K [9,32,32]))))))
def kN (x:Int):Option Str:=sr false some x
def FV:Ent:=evE (.cons aa .unit) rj (zero .str) (fun x=>kN x.1)
theorem UW:ar Tryz.prog 68 (FV):=evX Tryz.func68 (S:=AN) aW (ah ⟨qZ,trivial⟩) (tys:=[.str]) (fun fuel x=>sr true (sm rj) x.1) (fun x=>by show _=Option.map rj _; simp only [sr,kN,ss])
def IQ (m:Bool) {β:Type} (K:Str→Option β) (x:Int):Option β:=(cl m aa (bC x 26) fun r1=>(ck (!decide ((26:Int)=0)) (cl m aa (bC (w64 (Int.tdiv x 26)) 25) fun r2=>(K (List.map (fun n:Int=>UInt8.ofNat n.toNat) [(IntKind.wrap .u8 (w64 ((97:Int)+r1))),(IntKind.wrap .u8 (w64 ((98:Int)+r2)))])))))
def pN (x:Int):Option Str:=IQ false some x
def YY:Ent:=evE (.cons aa .unit) rj (zero .str) (fun x=>pN x.1)
theorem ahr:ar Tryz.prog 69 (YY):=evX Tryz.func69 (S:=AN) aW (ah ⟨qZ,trivial⟩) (tys:=[.str]) (fun fuel x=>IQ true (sm rj) x.1) (fun x=>by show _=Option.map rj _; simp only [IQ,pN,ss])
abbrev d8 (β:Type):=Int→au.den→(List Int)→Int→Option β
abbrev Fn (β:Type):=Int→Int→au.den→(List Int)→Option β
def gO (m:Bool) {β:Type} (K:(List Int)→Option β) (k_l3:d8 β):Fn β:=fun kind i s out=>(fz m aa (w64 (i+1)) fun y3_=>(k_l3 kind s out y3_))
def ahp (x0:au.den) (x1:Int):Bool:=(fu x0 x1).isSome
def ahq (x0:au.den) (x1:Int):Int:=(fu x0 x1).getD (zero aa)
def gN (m:Bool) {β:Type} (K:(List Int)→Option β) (k_l3:d8 β):d8 β:=fun kind s out i=>(bif (decide (i<(il s.1))) then (ck (bd i s.1.length) (nq m [2,2] (decide ((ix ak s.1 i).2.1=1)) (nq m [2] ((decide ((ix ak s.1 i).2.1=1))&&(!(decide (kind=0)))) (nm m 2 ((decide ((ix ak s.1 i).2.1=1))&&(!(decide (kind=0)))) (bd i s.1.length) (nq m [2,2] ((decide ((ix ak s.1 i).2.1=1))&&(!(decide (kind=0)))) (nm m 2 ((decide ((ix ak s.1 i).2.1=1))&&(!(decide (kind=0)))) (ahp s ((ix ak s.1 i).1)) (nq m [3] ((decide ((ix ak s.1 i).2.1=1))&&(!(decide (kind=0)))) (nm m 0 (decide ((ix ak s.1 i).2.1=1)) (ii ((decide ((ix ak s.1 i).2.1=1))&&(!(decide (kind=0))))) (nq m [1] (decide ((ix ak s.1 i).2.1=1)) (bif (bif (decide ((ix ak s.1 i).2.1=1)) then (bif (decide (kind=0)) then true else (decide ((ahq s ((ix ak s.1 i).1))=kind))) else false) then (ck (bd i s.1.length) (ck (lm (List.length out+List.length ([(ix ak s.1 i).1]:List Int))) (fz m (.slice aa) (out++[(ix ak s.1 i).1]) fun y3_=>(gO m K k_l3 kind i s y3_)))) else (gO m K k_l3 kind i s out))))))))))) else (K out))
def m4 (m:Bool) {β:Type} (K:(List Int)→Option β) (k_l3:d8 β) (s:au.den) (kind:Int):Option β:=(k_l3 kind s [] 0)
def iF:Nat→d8 (List Int):=lp (fun _ _ _ _=>none) fun k_l3=>gN false some k_l3
def bw (s:au.den) (kind:Int):Option (List Int):=m4 false some (iF FU) s kind
def rD:Nw:=nwE aa (.cons au (.cons aa .unit)) 3 (fun x=>bw x.1 x.2.1)
def nu:MS:=⟨1,[(0,[.dat (.slice ak)])],[(1,.dat aa),(2,.keep),(5,.own aa 3),(6,.dat aa)]⟩
def Ar:Par:=⟨ca.tab,(ay [(64,wS)]),(fun _=>ao [(4,nu)]),(fun _=>ao [(3,nu)])⟩
def Oi:KT:=yj ca.tab [.tmp 4] aa 3
def As (fuel lo:Nat) (p:List Nat):Sg→KT→Option AV:=xc (aD fi0 hs0 fuel 0) Ar lo fuel (sub ((Tryz.f62.body).getD .skip) p)
def iE (fuel n:Nat):d8 AV:=fun kind s out i=>aB 0 nu (As fuel 0 [1,1,0,1,0,0]) (ai 0 (aw 0 none (As fuel 0 [1,1,1]) Oi)) n ⟨mkE 47 [(1,.val aa kind),(2,.box 0 0),(5,.own 1 0 aa out),(6,.val aa i)],mkH 2 [(0,.box [.val (.slice ak) s.1]),(1,.row aa 3 0)]⟩
theorem Fo (fuel n3:Nat):iE fuel (n3+1)=gN true (sm bg) (iE fuel n3):=by kernel_rfl
theorem Fp : ∀ n,iE FU n=mp4 bg (iF n):=bo (by kernel_rfl) fun n3 _ h=>(Fo FU n3).trans (by rw [h]; funext _ _ _ _; simp only [gN,gO,ss])
theorem Aq:SR Tryz.prog 62 (rD):=nwX Tryz.func62 (S:=Ar) aW (ah ⟨Be,trivial⟩) (fun fuel x=>m4 true (sm bg) (iE fuel fuel) x.1 x.2.1) (fun x=>by show _=Option.map bg _; rw [Fp FU]; simp only [m4,bw,gO,ss])
def AX (m:Bool) {β:Type} (K:Int→Option β) (l:(List Int)) (x:Int):Option β:=(bif (decide ((il l)=0)) then (K 0) else (cl m aa (bC x (il l)) fun r1=>(ck (bd r1 l.length) (K (ix aa l r1)))))
def bK (l:(List Int)) (x:Int):Option Int:=AX false some l x
def Ir:Ent:=evE (.cons (.slice aa) (.cons aa .unit)) ax (zero aa) (fun x=>bK x.1 x.2.1)
theorem Tn:ar Tryz.prog 63 (Ir):=evX Tryz.func63 (S:=AN) aW (ah ⟨qZ,trivial⟩) (tys:=[aa]) (fun fuel x=>AX true (sm ax) x.1 x.2.1) (fun x=>by show _=Option.map ax _; simp only [AX,bK,ss])
def AW (m:Bool) {β:Type} (K:ap.den→Option β) (s:au.den) (id:Int) (field:Int):Option β:=(ce m (.slice aK) (cK s id field) (gQ s id field) fun r1=>(bif (decide ((il r1)=0)) then (K (0,false,[],0,())) else (ck (bd 0 r1.length) (K ((ix aK r1 0).2.1)))))
def fp (s:au.den) (id:Int) (field:Int):Option ap.den:=AW false some s id field
def Tm:Ent:=evE (.cons au (.cons aa (.cons aa .unit))) i9 (zero ap) (fun x=>fp x.1 x.2.1 x.2.2.1)
theorem adq:ar Tryz.prog 67 (Tm):=evX Tryz.func67 (S:=TC) aW (ah ⟨KY,trivial⟩) (tys:=[ap]) (fun fuel x=>AW true (sm i9) x.1 x.2.1 x.2.2.1) (fun x=>by show _=Option.map i9 _; simp only [AW,fp,ss])
def sz (m:Bool) {β:Type} (K:ap.den→Option β) (v:ap.den) (s:au.den) (x:Int):Option β:=(nq m [2,2,1] (decide (v.1≥5)) (bif (bif (decide (v.1≥5)) then (decide (v.1≤9)) else false) then (cl m aa (bC x 4) fun r1=>(bif (decide (r1=0)) then (K (5,false,[],0,())) else (bif (decide (r1=1)) then (K (6,false,[],0,())) else (bif (decide (r1=2)) then (ck (!decide ((4:Int)=0)) (cl m .str (iI 3 (w64 (Int.tdiv x 4))) fun r2=>(K (9,false,r2,0,())))) else (cl m (.slice aa) (bw s 3) fun r3=>(ck (!decide ((4:Int)=0)) (cl m aa (bK r3 (w64 (Int.tdiv x 4))) fun r4=>(bif (!decide (r4=0)) then (K (9,false,[],r4,())) else (K (7,false,[],0,())))))))))) else (bif (decide (v.1=21)) then (cl m aa (bC x 2) fun r5=>(bif (decide (r5=0)) then (K (21,false,[42],0,())) else (K (21,false,[60],0,())))) else (bif (decide (v.1=20)) then (cl m .str (iI 2 x) fun r6=>(K (20,false,r6,0,()))) else (cl m aa (bC x 6) fun r7=>(bif (decide (r7=0)) then (K (10,false,[51],0,())) else (bif (decide (r7=1)) then (K (11,false,[34,115,34],0,())) else (bif (decide (r7=2)) then (cl m (.slice aa) (bw s 4) fun r8=>(ck (!decide ((6:Int)=0)) (cl m aa (bK r8 (w64 (Int.tdiv x 6))) fun r9=>(bif (!decide (r9=0)) then (K (12,false,[],r9,())) else (K (12,false,[122],0,())))))) else (bif (decide (r7=3)) then (cl m (.slice aa) (bw s 2) fun r10=>(ck (!decide ((6:Int)=0)) (cl m aa (bK r10 (w64 (Int.tdiv x 6))) fun r11=>(bif (!decide (r11=0)) then (ck (!decide ((6:Int)=0)) (cl m aa (bC (w64 (Int.tdiv x 6)) 3) fun r12=>(K (16,(decide (r12=0)),[],r11,())))) else (K (16,false,[77,46,102],0,())))))) else (bif (decide (r7=4)) then (K (10,false,[49,50],0,())) else (K (13,false,[],0,()))))))))))))
def eD (v:ap.den) (s:au.den) (x:Int):Option ap.den:=sz false some v s x
def F1:Ent:=evE (.cons ap (.cons au (.cons aa .unit))) i9 (zero ap) (fun x=>eD x.1 x.2.1 x.2.2.1)
def Vd:Par:=⟨ca.tab,(dn [(7,yB),(65,HK),(63,Ir)] [] [] [] [(62,rD)]),(fun _=>ao []),(fun _=>ao [])⟩
theorem Vc:ar Tryz.prog 66 (F1):=evX Tryz.func66 (S:=Vd) aW (bq ⟨qZ,SZ,Tn,trivial⟩ trivial trivial trivial ⟨Aq,trivial⟩) (tys:=[ap]) (fun fuel x=>sz true (sm i9) x.1 x.2.1 x.2.2.1) (fun x=>by show _=Option.map i9 _; simp only [sz,eD,ss])
abbrev cP (β:Type):=(List ac.den)→Nat→Int→(List ac.den)→Option β
abbrev iM (β:Type):=(List ac.den)→Int→Nat→Int→(List ac.den)→Option β
abbrev HS (β:Type):=(List ac.den)→Int→Int→Nat→Int→(List ac.den)→Option β
abbrev L6 (β:Type):=(List ac.den)→Int→Nat→(List ac.den)→Option β
def kT (m:Bool) {β:Type} (K:bD→Option β) (k_l6:iM β):cP β:=fun l out_hi i out=>(bif (decide (i<(il l))) then (fz m aa (ni out_hi) fun y3_=>(k_l6 l i out_hi y3_ out)) else (K ((List.take out_hi out).drop 0)))
def kU (m:Bool) {β:Type} (K:bD→Option β) (k_l3:cP β):L6 β:=fun l i out_hi out=>(fz m aa (w64 (i+1)) fun y2_=>(k_l3 l out_hi y2_ out))
def eB (m:Bool) {β:Type} (K:bD→Option β) (k_l3:cP β):HS β:=fun l i t5 out_hi j out=>(ck (decide (0≤j)&&decide (j≤(ni out_hi))) (ck (lm (List.length ([]:List ac.den)+List.length ((List.take (0+out_hi) out).drop (0+(Int.toNat j))))) (ck (decide (0≤t5)&&decide (t5≤(ni out_hi))) (ck (bd i l.length) (ck (lm ((0+(Int.toNat t5))+List.length ([(ix ac l i)]:List ac.den))) (ck (lm (((0+(Int.toNat t5))+List.length ([(ix ac l i)]:List ac.den))+List.length (([]:List ac.den)++((List.take (0+out_hi) out).drop (0+(Int.toNat j)))))) (fm m (((0+(Int.toNat t5))+List.length ([(ix ac l i)]:List ac.den))+List.length (([]:List ac.den)++((List.take (0+out_hi) out).drop (0+(Int.toNat j))))) fun y2_=>(fz m (.slice ac) (List.take ((0+(Int.toNat t5))+List.length ([(ix ac l i)]:List ac.den)) (List.take (0+(Int.toNat t5)) out++[(ix ac l i)])++(([]:List ac.den)++((List.take (0+out_hi) out).drop (0+(Int.toNat j))))) fun y3_=>(kU m K k_l3 l i y2_ y3_)))))))))
def kS (m:Bool) {β:Type} (K:bD→Option β) (k_l6:iM β) (k_l3:cP β):iM β:=fun l i out_hi t5 out=>(nq m [2] (decide (t5>0)) (nm m 2 (decide (t5>0)) (decide (0≤(w64 (t5-1)))&&decide ((w64 (t5-1))<(ni out_hi))) (nq m [2,2,2] (decide (t5>0)) (nm m 2 (decide (t5>0)) (decide (0≤(w64 (t5-1)))&&decide ((w64 (t5-1))<(ni out_hi))) (nq m [2,2] (decide (t5>0)) (nm m 2 (decide (t5>0)) (bd i l.length) (nq m [2,2] (decide (t5>0)) (nm m 2 (decide (t5>0)) (bd i l.length) (nq m [2,2] (decide (t5>0)) (ck (((ii (decide (t5>0)))&&((ii (decide (t5>0)))&&((ii (decide (t5>0)))&&((ii (decide (t5>0)))&&true))))&&true) (nq m [2,1] (decide (t5>0)) (bif (bif (decide (t5>0)) then (!(jC ((List.getD out (0+Int.toNat (w64 (t5-1))) (zero ac)).1) ((List.getD out (0+Int.toNat (w64 (t5-1))) (zero ac)).2.1) ((ix ac l i).1) ((ix ac l i).2.1))) else false) then (fz m aa (w64 (t5-1)) fun y3_=>(k_l6 l i out_hi y3_ out)) else (nm m 2 (decide (t5<(ni out_hi))) (decide (0≤t5)&&decide (t5<(ni out_hi))) (nq m [2,2] (decide (t5<(ni out_hi))) (nm m 2 (decide (t5<(ni out_hi))) (bd i l.length) (nq m [2,2,3,1] (decide (t5<(ni out_hi))) (nm m 2 (bif (decide (t5<(ni out_hi))) then (decide ((List.getD out (0+Int.toNat t5) (zero ac)).1=(ix ac l i).1)) else false) (decide (0≤t5)&&decide (t5<(ni out_hi))) (nq m [2,2] (bif (decide (t5<(ni out_hi))) then (decide ((List.getD out (0+Int.toNat t5) (zero ac)).1=(ix ac l i).1)) else false) (nm m 2 (bif (decide (t5<(ni out_hi))) then (decide ((List.getD out (0+Int.toNat t5) (zero ac)).1=(ix ac l i).1)) else false) (bd i l.length) (nq m [2,2,3,1] (bif (decide (t5<(ni out_hi))) then (decide ((List.getD out (0+Int.toNat t5) (zero ac)).1=(ix ac l i).1)) else false) (bif (bif (bif (decide (t5<(ni out_hi))) then (decide ((List.getD out (0+Int.toNat t5) (zero ac)).1=(ix ac l i).1)) else false) then (decide ((List.getD out (0+Int.toNat t5) (zero ac)).2.1=(ix ac l i).2.1)) else false) then (fz m aa (w64 (t5+1)) fun y4_=>(eB m K k_l3 l i t5 out_hi y4_ out)) else (eB m K k_l3 l i t5 out_hi t5 out))))))))))))))))))))))
def sy (m:Bool) {β:Type} (K:bD→Option β) (k_l3:cP β) (l:(List ac.den)):Option β:=(k_l3 l 0 0 [])
def iO (k_l3:cP bD):Nat→iM bD:=lp (fun _ _ _ _ _=>none) fun k_l6=>kS false some k_l6 k_l3
def mE:Nat→cP bD:=lp (fun _ _ _ _=>none) fun k_l3=>kT false some (iO k_l3 FU)
def kV (l:(List ac.den)):Option bD:=sy false some (mE FU) l
def FY:Ent:=evE (.cons (.slice ac) .unit) bL (zero (.slice ac)) (fun x=>kV x.1)
def iN:MS:=⟨0,[],[(0,.dat (.slice ac)),(3,.mut ac 86),(4,.dat aa)]⟩
def zD:MS:=⟨0,[],[(0,.dat (.slice ac)),(3,.mut ac 86),(4,.dat aa),(5,.dat aa)]⟩
def HT:MS:=⟨0,[],[(0,.dat (.slice ac)),(3,.mut ac 86),(4,.dat aa),(5,.dat aa),(6,.dat aa)]⟩
def FZ:Par:=⟨ca.tab,(ay [(85,nb)]),(fun _=>ao [(11,HT),(4,iN)]),(fun _=>ao [(3,iN),(6,zD)])⟩
def F0:KT:=bc ca.tab [.tmp 2] [(.slice ac)]
def hC (fuel lo:Nat) (p:List Nat):Sg→KT→Option AV:=xc (aD fi0 hs0 fuel 0) FZ lo fuel (sub ((Tryz.f72.body).getD .skip) p)
def iP (fuel n:Nat):cP AV:=fun l out_hi i out=>aB 0 iN (hC fuel 0 [1,1,0,1,0,0]) (ai 0 (aw 0 none (hC fuel 0 [1,1,1]) F0)) n ⟨mkE 96 [(0,.val (.slice ac) l),(3,.msl 0 0 0 out_hi),(4,.val aa i)],mkH 1 [(0,.mrow ac 86 0 out)]⟩
def mD (fuel n3 n:Nat):iM AV:=fun l i out_hi t5 out=>aB 0 zD (hC fuel 0 [1,1,0,1,0,0,1,0,0,1,0,0,0]) (ai 2 (aw 0 none (hC fuel 0 [1,1,0,1,0,0,1,0,0,1,1]) (ai 1 (aw 0 (some iN) (hC fuel 0 [1,1,0,1,0,0,1,1]) (kLp 0 iN (hC fuel 0 [1,1,0,1,0,0]) (ai 0 (aw 0 none (hC fuel 0 [1,1,1]) F0)) n3))))) n ⟨mkE 96 [(0,.val (.slice ac) l),(3,.msl 0 0 0 out_hi),(4,.val aa i),(5,.val aa t5)],mkH 1 [(0,.mrow ac 86 0 out)]⟩
theorem L9 (fuel n3:Nat):iP fuel (n3+1)=kT true (sm bL) (mD fuel n3 fuel):=by kernel_rfl
theorem L7 (fuel n3 n6:Nat):mD fuel n3 (n6+1)=kS true (sm bL) (mD fuel n3 n6) (iP fuel n3):=by kernel_rfl
theorem L8 (n3:Nat) {k_l3:cP bD} (h_l3:iP FU n3=mp4 bL k_l3) : ∀ n,mD FU n3 n=mp5 bL (iO k_l3 n):=bo (by kernel_rfl) fun n6 _ h=>(L7 FU n3 n6).trans (by rw [h,h_l3]; funext _ _ _ _ _; simp only [kS,eB,kU,ss])
theorem Ma : ∀ n,iP FU n=mp4 bL (mE n):=bo (by kernel_rfl) fun n3 _ h=>(L9 FU n3).trans (by rw [L8 n3 h FU]; funext _ _ _ _; simp only [kT,eB,kU,ss])
theorem Vb:ar Tryz.prog 72 (FY):=evX Tryz.func72 (S:=FZ) aW (ah ⟨xY,trivial⟩) (tys:=[(.slice ac)]) (fun fuel x=>sy true (sm bL) (iP fuel fuel) x.1) (fun x=>by show _=Option.map bL _; rw [Ma FU]; simp only [sy,kV,eB,kU,ss])
abbrev ju (β:Type):=Int→(List Int)→aM.den→(List ac.den)→Int→Option β
abbrev oU (β:Type):=Int→(List Int)→Int→(List ac.den)→aM.den→(List ac.den)→Int→Option β
abbrev acq (β:Type):=Int→(List Int)→Int→(List ac.den)→Int→aM.den→(List ac.den)→Option β
def xX (m:Bool) {β:Type} (K:bD→Option β) (k_l8:oU β):ju β:=fun id r1 t0 out i=>(nq m [2,1] (decide (i<(il ([id]++r1)))) (bif (bif (decide (i<(il ([id]++r1)))) then (decide (i<12)) else false) then (ck (bd i ([id]++r1).length) (cl m (.slice ac) (C0 (t0.1) (ix aa ([id]++r1) i)) fun r2=>(k_l8 id r1 i r2 t0 out 0))) else (K out)))
def tN (m:Bool) {β:Type} (K:bD→Option β) (k_l8:oU β):acq β:=fun id r1 i r2 t9 t0 out=>(fz m aa (w64 (t9+1)) fun y6_=>(k_l8 id r1 i r2 t0 out y6_))
def xV (m:Bool) {β:Type} (K:bD→Option β) (k_l8:oU β) (k_l4:ju β):oU β:=fun id r1 i r2 t0 out t9=>(bif (decide (t9<(il r2))) then (ck (bd t9 r2.length) (bif (!decide ((ix ac r2 t9).2.1=1)) then (ck (bd t9 r2.length) (ck (lm (List.length out+List.length ([(ix ac r2 t9)]:List ac.den))) (fz m (.slice ac) (out++[(ix ac r2 t9)]) fun y6_=>(tN m K k_l8 id r1 i r2 t9 t0 y6_)))) else (tN m K k_l8 id r1 i r2 t9 t0 out))) else (fz m aa (w64 (i+1)) fun y4_=>(k_l4 id r1 t0 out y4_)))
def K0 (m:Bool) {β:Type} (K:bD→Option β) (k_l4:ju β) (t0:aM.den) (id:Int):Option β:=(cl m (.slice aa) (l6 t0 id) fun r1=>(ck (lm (List.length ([id]:List Int)+List.length r1)) (k_l4 id r1 t0 [] 0)))
def rN (k_l4:ju bD):Nat→oU bD:=lp (fun _ _ _ _ _ _ _=>none) fun k_l8=>xV false some k_l8 k_l4
def xW:Nat→ju bD:=lp (fun _ _ _ _ _=>none) fun k_l4=>xX false some (rN k_l4 FU)
def na (t0:aM.den) (id:Int):Option bD:=K0 false some (xW FU) t0 id
def acv:Ent:=evE (.cons aM (.cons aa .unit)) bL (zero (.slice ac)) (fun x=>na x.1 x.2.1)
def EM:MS:=⟨1,[(0,[.dat (.slice ac)])],[(2,.keep),(5,.dat (.slice aa)),(6,.own ac 86),(7,.dat aa)]⟩
def EL:MS:=⟨1,[(0,[.dat (.slice ac)])],[(2,.keep),(5,.dat (.slice aa)),(6,.own ac 86),(7,.dat aa),(8,.dat (.slice ac)),(9,.dat aa)]⟩
def acw:Par:=⟨ca.tab,(ay [(107,Hf),(108,agj)]),(fun _=>ao [(9,EL)]),(fun _=>ao [(4,EM),(8,EL)])⟩
def zh (fuel lo:Nat) (p:List Nat):Sg→KT→Option AV:=xc (aD fi0 hs0 fuel 0) acw lo fuel (sub ((Tryz.f71.body).getD .skip) p)
def rO (fuel n:Nat):ju AV:=fun id r1 t0 out i=>aB 0 EM (zh fuel 0 [1,1,1,0,1,0,0]) (ai 0 (aw 0 none (zh fuel 0 [1,1,1,1]) YL)) n ⟨mkE 53 [(2,.box 0 0),(5,.val (.slice aa) ([id]++r1)),(6,.own 1 0 ac out),(7,.val aa i)],mkH 2 [(0,.box [.val (.slice ac) t0.1]),(1,.row ac 86 0)]⟩
def xU (fuel n4 n:Nat):oU AV:=fun id r1 i r2 t0 out t9=>aB 0 EL (zh fuel 0 [1,1,1,0,1,0,0,1,0,0,1,1,0,0]) (ai 2 (ai 1 (aw 0 none (zh fuel 0 [1,1,1,0,1,0,0,1,1]) (kLp 0 EM (zh fuel 0 [1,1,1,0,1,0,0]) (ai 0 (aw 0 none (zh fuel 0 [1,1,1,1]) YL)) n4)))) n ⟨mkE 53 [(2,.box 0 0),(5,.val (.slice aa) ([id]++r1)),(6,.own 1 0 ac out),(7,.val aa i),(8,.val (.slice ac) r2),(9,.val aa t9)],mkH 2 [(0,.box [.val (.slice ac) t0.1]),(1,.row ac 86 0)]⟩
theorem act (fuel n4:Nat):rO fuel (n4+1)=xX true (sm bL) (xU fuel n4 fuel):=by kernel_rfl
theorem acr (fuel n4 n8:Nat):xU fuel n4 (n8+1)=xV true (sm bL) (xU fuel n4 n8) (rO fuel n4):=by kernel_rfl
theorem acs (n4:Nat) {k_l4:ju bD} (h_l4:rO FU n4=mp5 bL k_l4) : ∀ n,xU FU n4 n=mp7 bL (rN k_l4 n):=bo (by kernel_rfl) fun n8 _ h=>(acr FU n4 n8).trans (by rw [h,h_l4]; funext _ _ _ _ _ _ _; simp only [xV,tN,ss])
theorem acu : ∀ n,rO FU n=mp5 bL (xW n):=bo (by kernel_rfl) fun n4 _ h=>(act FU n4).trans (by rw [acs n4 h FU]; funext _ _ _ _ _; simp only [xX,tN,ss])
theorem ajN:ar Tryz.prog 71 (acv):=evX Tryz.func71 (S:=acw) aW (ah ⟨W4,aj4,trivial⟩) (tys:=[(.slice ac)]) (fun fuel x=>K0 true (sm bL) (rO fuel fuel) x.1 x.2.1) (fun x=>by show _=Option.map bL _; rw [acu FU]; simp only [K0,na,tN,ss])
abbrev eW (β:Type):=Nat→Int→(List ac.den)→Option β
abbrev H3 (β:Type):=Int→Nat→(List ac.den)→Option β
def iS (m:Bool) {β:Type} (K:bD→Option β) (k_l3:eW β):H3 β:=fun i out_hi out=>(fz m aa (w64 (i+1)) fun y1_=>(k_l3 out_hi y1_ out))
def iR (m:Bool) {β:Type} (K:bD→Option β) (k_l3:eW β):eW β:=fun out_hi i out=>(bif (decide (i<(ni out_hi))) then (ck (decide (0≤i)&&decide (i<(ni out_hi))) (bif (decide ((List.getD out (0+Int.toNat i) (zero ac)).2.1=2)) then (ck (decide (0≤i)&&decide (i<(ni out_hi))) (fz m (.slice ac) (List.set out (0+Int.toNat i) ((List.getD out (0+Int.toNat i) (zero ac)).1,(List.getD out (0+Int.toNat i) (zero ac)).2.1,(0,false,[],0,()),())) fun y2_=>(iS m K k_l3 i out_hi y2_))) else (iS m K k_l3 i out_hi out))) else (K ((List.take out_hi out).drop 0)))
def pr (m:Bool) {β:Type} (K:bD→Option β) (k_l3:eW β) (l:(List ac.den)):Option β:=(ck (lm (0+List.length l)) (fm m (0+List.length l) fun y0_=>(fz m (.slice ac) (List.take 0 []++l) fun y2_=>(k_l3 y0_ 0 y2_))))
def jJ:Nat→eW bD:=lp (fun _ _ _=>none) fun k_l3=>iR false some k_l3
def eG (l:(List ac.den)):Option bD:=pr false some (jJ FU) l
def Cr:Ent:=evE (.cons (.slice ac) .unit) bL (zero (.slice ac)) (fun x=>eG x.1)
def pt:MS:=⟨0,[],[(3,.mut ac 86),(4,.dat aa)]⟩
def Cs:Par:=⟨LU.tab,(ay []),(fun _=>ao [(4,pt)]),(fun _=>ao [(3,pt)])⟩
def PT:KT:=bc LU.tab [.tmp 2] [(.slice ac)]
def Ct (fuel lo:Nat) (p:List Nat):Sg→KT→Option AV:=xc (aD fi0 hs0 fuel 0) Cs lo fuel (sub ((Tryz.f70.body).getD .skip) p)
def jI (fuel n:Nat):eW AV:=fun out_hi i out=>aB 0 pt (Ct fuel 0 [1,1,0,1,0,0]) (ai 0 (aw 0 none (Ct fuel 0 [1,1,1]) PT)) n ⟨mkE 26 [(3,.msl 0 0 0 out_hi),(4,.val aa i)],mkH 1 [(0,.mrow ac 86 0 out)]⟩
theorem H4 (fuel n3:Nat):jI fuel (n3+1)=iR true (sm bL) (jI fuel n3):=by kernel_rfl
theorem H5 : ∀ n,jI FU n=mp3 bL (jJ n):=bo (by kernel_rfl) fun n3 _ h=>(H4 FU n3).trans (by rw [h]; funext _ _ _; simp only [iR,iS,ss])
theorem PS:ar Tryz.prog 70 (Cr):=evX Tryz.func70 (S:=Cs) LT (ah trivial) (tys:=[(.slice ac)]) (fun fuel x=>pr true (sm bL) (jI fuel fuel) x.1) (fun x=>by show _=Option.map bL _; rw [H5 FU]; simp only [pr,eG,iS,ss])
abbrev dH (β:Type):=Int→(List Int)→(List Int)→(List Int)→Int→Bool→(List ak.den)→Int→Int→Int→Int→(List ac.den)→Option β
abbrev jF (β:Type):=Int→Int→Int→Int→Int→Int→Option β
abbrev eT (β:Type):=(List ac.den)→Option β
abbrev jE (β:Type):=Int→Int→Bool→Str→Int→Option β
def oX (m:Bool) {β:Type} (K:bD→Option β) (k_j14:jF β) (k_j17:dH β):dH β:=fun last r2 r3 r4 r5 t33 b0_0 b1_0 b1_1 b1_2 b1_3 b5_0=>(bif t33 then (cl m aa (bK r2 b1_2) fun r6=>(cl m aa (fu (b0_0,()) r6) fun r7=>(nq m [2,0] (!(decide (r7=5))) (bif (bif (decide (r7=5)) then true else (decide (r7=0))) then (cl m aa (bK r4 b1_2) fun r8=>(k_j14 r8 2 b1_0 b1_1 b1_2 b1_3)) else (k_j14 r6 r7 b1_0 b1_1 b1_2 b1_3))))) else (bif (decide (r5=2)) then (fz m .bool (decide (r5=2)) fun y5_=>(k_j17 last r2 r3 r4 r5 y5_ b0_0 b1_0 b1_1 b1_2 b1_3 b5_0)) else (fz m .bool (decide (r5=3)) fun y5_=>(k_j17 last r2 r3 r4 r5 y5_ b0_0 b1_0 b1_1 b1_2 b1_3 b5_0))))
def mn (m:Bool) {β:Type} (K:bD→Option β) (k_j45:eT β):jF β:=fun id t13 b1_0 b1_1 b1_2 b1_3=>(cl m .str (iI t13 b1_3) fun r9=>(ck (lm (List.length ([]:List ac.den)+List.length ([(id,3,(0,false,r9,0,()),())]:List ac.den))) (fz m (.slice ac) ([]++[(id,3,(0,false,r9,0,()),())]) fun y0_=>(k_j45 y0_))))
def mm (m:Bool) {β:Type} (K:bD→Option β) (k_j45:eT β) (k_j42:jE β):dH β:=fun last r2 r3 r4 r5 t63 b0_0 b1_0 b1_1 b1_2 b1_3 b5_0=>(bif t63 then (cl m aa (bK r3 b1_2) fun r10=>(cl m ap (fp (b0_0,()) r10 4) fun r11=>(cl m ap (eD r11 (b0_0,()) b1_3) fun r12=>(ck (lm (List.length ([]:List ac.den)+List.length ([(r10,4,r12,())]:List ac.den))) (fz m (.slice ac) ([]++[(r10,4,r12,())]) fun y0_=>(k_j45 y0_)))))) else (bif (decide (r5=4)) then (cl m aa (bK r2 b1_2) fun r13=>(cl m aa (bC b1_3 3) fun r14=>(ck (!decide ((3:Int)=0)) (cl m .str (kN (w64 (Int.tdiv b1_3 3))) fun r15=>(ck (lm (List.length ([]:List ac.den)+List.length ([(r13,(w64 ((8:Int)+r14)),(0,false,r15,0,()),())]:List ac.den))) (fz m (.slice ac) ([]++[(r13,(w64 ((8:Int)+r14)),(0,false,r15,0,()),())]) fun y0_=>(k_j45 y0_))))))) else (bif (decide (r5=5)) then (cl m aa (bK r4 b1_2) fun r16=>(cl m (.slice aa) (bw (b0_0,()) 1) fun r17=>(cl m aa (bK r17 b1_3) fun r18=>(ck (!decide ((2:Int)=0)) (cl m .str (pN (w64 (Int.tdiv b1_3 2))) fun r19=>(ck (lm (List.length ([]:List ac.den)+List.length ([(r16,2,(0,false,r19,r18,()),())]:List ac.den))) (fz m (.slice ac) ([]++[(r16,2,(0,false,r19,r18,()),())]) fun y0_=>(k_j45 y0_)))))))) else (bif (decide (r5=6)) then (cl m aa (bK r3 b1_2) fun r20=>(cl m aa (bK r3 b1_3) fun r21=>(cl m ap (fp (b0_0,()) r21 2) fun r22=>(ck (lm (List.length ([]:List ac.den)+List.length ([(r20,2,r22,())]:List ac.den))) (fz m (.slice ac) ([]++[(r20,2,r22,())]) fun y0_=>(k_j45 y0_)))))) else (bif (decide (r5=7)) then (cl m aa (bK r3 b1_2) fun r23=>(cl m ap (fp (b0_0,()) r23 2) fun r24=>(cl m (.slice ac) (na (b5_0,()) r23) fun r25=>(cl m (.slice ac) (eG r25) fun r26=>(ck (lm (List.length ([]:List ac.den)+List.length r26)) (cl m ap (fp (b0_0,()) r23 4) fun r27=>(cl m ap (eD r27 (b0_0,()) b1_3) fun r28=>(ck (lm (List.length ([]++r26)+List.length ([((w64 (last+1)),1,(5,false,[],0,()),()),((w64 (last+1)),2,r24,()),((w64 (last+1)),4,r28,())]:List ac.den))) (fz m (.slice ac) (([]++r26)++[((w64 (last+1)),1,(5,false,[],0,()),()),((w64 (last+1)),2,r24,()),((w64 (last+1)),4,r28,())]) fun y0_=>(k_j45 y0_)))))))))) else (bif (decide (r5=8)) then (cl m (.slice aa) (bw (b0_0,()) 1) fun r29=>(cl m aa (bK r29 b1_2) fun r30=>(cl m .str (pN b1_3) fun r31=>(cl m .str (iI 2 b1_3) fun r32=>(ck (!decide ((2:Int)=0)) (cl m ap (eD (0,false,[],0,()) (b0_0,()) (w64 (Int.tdiv b1_3 2))) fun r33=>(ck (lm (List.length ([]:List ac.den)+List.length ([((w64 (last+1)),1,(2,false,[],0,()),()),((w64 (last+1)),2,(0,false,r31,r30,()),()),((w64 (last+1)),3,(0,false,r32,0,()),()),((w64 (last+1)),8,(0,false,[10],0,()),()),((w64 (last+1)),9,(0,false,[32],0,()),()),((w64 (last+2)),1,(5,false,[],0,()),()),((w64 (last+2)),2,(1,false,[],(w64 (last+1)),()),()),((w64 (last+2)),4,(5,false,[],0,()),()),((w64 (last+3)),1,(5,false,[],0,()),()),((w64 (last+3)),2,(2,false,[],(w64 (last+1)),()),()),((w64 (last+3)),4,r33,())]:List ac.den))) (fz m (.slice ac) ([]++[((w64 (last+1)),1,(2,false,[],0,()),()),((w64 (last+1)),2,(0,false,r31,r30,()),()),((w64 (last+1)),3,(0,false,r32,0,()),()),((w64 (last+1)),8,(0,false,[10],0,()),()),((w64 (last+1)),9,(0,false,[32],0,()),()),((w64 (last+2)),1,(5,false,[],0,()),()),((w64 (last+2)),2,(1,false,[],(w64 (last+1)),()),()),((w64 (last+2)),4,(5,false,[],0,()),()),((w64 (last+3)),1,(5,false,[],0,()),()),((w64 (last+3)),2,(2,false,[],(w64 (last+1)),()),()),((w64 (last+3)),4,r33,())]) fun y0_=>(k_j45 y0_))))))))) else (bif (decide (r5=9)) then (cl m (.slice aa) (bw (b0_0,()) 4) fun r34=>(ck (lm (r4.length+r34.length)) (cl m aa (bK (r4++r34) b1_2) fun r35=>(cl m (.slice ac) (na (b5_0,()) r35) fun r36=>(cl m (.slice ac) (eG r36) fun r37=>(k_j45 r37)))))) else (bif (decide (r5=10)) then (cl m (.slice aa) (bw (b0_0,()) 4) fun r38=>(cl m aa (bK r38 b1_2) fun r39=>(cl m ap (fp (b0_0,()) r39 2) fun r40=>(bif (!decide (r40.2.2.2.1=0)) then (cl m .str (pN b1_3) fun r41=>(k_j42 r39 (r40.1) (r40.2.1) r41 (r40.2.2.2.1))) else (k_j42 r39 (r40.1) (r40.2.1) (r40.2.2.1) (r40.2.2.2.1)))))) else (bif (decide (r5=11)) then (cl m aa (bK r2 b1_2) fun r42=>(cl m (.slice ac) (na (b5_0,()) r42) fun r43=>(k_j45 r43))) else (k_j45 []))))))))))
def mj (m:Bool) {β:Type} (K:bD→Option β):eT β:=fun w=>(cl m (.slice ac) (kV w) fun r44=>(K r44))
def ml (m:Bool) {β:Type} (K:bD→Option β) (k_j45:eT β):jE β:=fun r39 b31_0 b31_1 b31_2 b31_3=>(ck (lm (List.length ([]:List ac.den)+List.length ([(r39,2,(b31_0,b31_1,b31_2,b31_3,()),())]:List ac.den))) (fz m (.slice ac) ([]++[(r39,2,(b31_0,b31_1,b31_2,b31_3,()),())]) fun y0_=>(k_j45 y0_)))
def sa (m:Bool) {β:Type} (K:bD→Option β) (k_j9:dH β) (s:au.den) (d:bB.den) (last:Int):Option β:=(ce m aM (stG s) (bJ s) fun r1=>(cl m (.slice aa) (bw s 0) fun r2=>(cl m (.slice aa) (bw s 5) fun r3=>(cl m (.slice aa) (bw s 2) fun r4=>(cl m aa (bC (d.1) 13) fun r5=>(bif (decide (r5=0)) then (fz m .bool (decide (r5=0)) fun y5_=>(fz m (.slice ak) (s.1) fun y6_=>(fz m aa (d.1) fun y7_=>(fz m aa (d.2.1) fun y8_=>(fz m aa (d.2.2.1) fun y9_=>(fz m aa (d.2.2.2.1) fun y10_=>(k_j9 last r2 r3 r4 r5 y5_ y6_ y7_ y8_ y9_ y10_ (r1.1)))))))) else (fz m .bool (decide (r5=1)) fun y5_=>(fz m (.slice ak) (s.1) fun y6_=>(fz m aa (d.1) fun y7_=>(fz m aa (d.2.1) fun y8_=>(fz m aa (d.2.2.1) fun y9_=>(fz m aa (d.2.2.2.1) fun y10_=>(k_j9 last r2 r3 r4 r5 y5_ y6_ y7_ y8_ y9_ y10_ (r1.1))))))))))))))
def dK:eT bD:=mj false some
def dL:jF bD:=mn false some dK
def gp:jE bD:=ml false some dK
def gq:dH bD:=mm false some dK gp
def mi:dH bD:=oX false some dL gq
def kz (s:au.den) (d:bB.den) (last:Int):Option bD:=sa false some mi s d last
def Fz:Ent:=evE (.cons au (.cons bB (.cons aa .unit))) bL (zero (.slice ac)) (fun x=>kz x.1 x.2.1 x.2.2.1)
def Ll:MS:=⟨6,[(0,[.dat (.slice ak)]),(1,[.dat aa,.dat aa,.dat aa,.dat aa]),(5,[.dat (.slice ac)])],[(2,.dat aa),(3,.keep),(4,.keep),(7,.keep),(8,.dat (.slice aa)),(9,.dat (.slice aa)),(10,.own aa 3),(11,.own ac 86),(32,.dat aa),(33,.dat .bool)]⟩
def HA:MS:=⟨2,[(0,[.drop]),(1,[.dat aa,.dat aa,.dat aa,.dat aa])],[(4,.keep),(11,.own ac 86),(12,.dat aa),(13,.dat aa)]⟩
def Hz:MS:=⟨6,[(0,[.dat (.slice ak)]),(1,[.dat aa,.dat aa,.dat aa,.dat aa]),(5,[.dat (.slice ac)])],[(2,.dat aa),(3,.keep),(4,.keep),(7,.keep),(8,.dat (.slice aa)),(9,.dat (.slice aa)),(10,.own aa 3),(11,.own ac 86),(32,.dat aa),(63,.dat .bool)]⟩
def gm:MS:=⟨0,[],[(11,.dat (.slice ac))]⟩
def Hy:MS:=⟨32,[(0,[.drop]),(1,[.drop,.drop,.drop,.drop]),(5,[.drop]),(31,[.dat aa,.dat .bool,.dat .str,.dat aa])],[(11,.own ac 86),(20,.dat aa),(21,.keep)]⟩
def FA:Par:=⟨ca.tab,(dn [(61,wD),(7,yB),(63,Ir),(64,wS),(65,HK),(67,Tm),(66,F1),(68,FV),(69,YY),(71,acv),(70,Cr),(72,FY)] [] [] [] [(62,rD)]),(fun _=>ao [(9,Ll),(14,HA),(17,Hz),(45,gm),(42,Hy)]),(fun _=>ao [])⟩
def nD:KT:=bc ca.tab [.tmp 6] [(.slice ac)]
def eU (fuel lo:Nat) (p:List Nat):Sg→KT→Option AV:=xc (aD fi0 hs0 fuel 0) FA lo fuel (sub ((Tryz.f27.body).getD .skip) p)
def qp (fuel:Nat):dH AV:=fun last r2 r3 r4 r5 t33 b0_0 b1_0 b1_1 b1_2 b1_3 b5_0=>(eU fuel 0 [1,1,1,1,1,1,0,1,0,1]) ⟨mkE 290 [(2,.val aa last),(3,.box 0 0),(4,.box 1 0),(7,.box 5 0),(8,.val (.slice aa) r2),(9,.val (.slice aa) r3),(10,.own 6 0 aa r4),(11,.own 7 0 ac []),(32,.val aa r5),(33,.val .bool t33)],mkH 8 [(0,.box [.val (.slice ak) b0_0]),(1,.box [.val aa b1_0,.val aa b1_1,.val aa b1_2,.val aa b1_3]),(5,.box [.val (.slice ac) b5_0]),(6,.row aa 3 0),(7,.row ac 86 0)]⟩ (ai 0 (aw 0 (some gm) (eU fuel 0 [1,1,1,1,1,1,1]) nD))
def o4 (fuel:Nat):jF AV:=fun id t13 b1_0 b1_1 b1_2 b1_3=>(eU fuel 0 [1,1,1,1,1,1,0,1,0,1,0,1,1,1]) ⟨mkE 290 [(4,.box 1 0),(11,.own 2 0 ac []),(12,.val aa id),(13,.val aa t13)],mkH 3 [(0,.box [.unk]),(1,.box [.val aa b1_0,.val aa b1_1,.val aa b1_2,.val aa b1_3]),(2,.row ac 86 0)]⟩ (ai 0 (aw 0 (some gm) (eU fuel 0 [1,1,1,1,1,1,1]) nD))
def o0 (fuel:Nat):dH AV:=fun last r2 r3 r4 r5 t63 b0_0 b1_0 b1_1 b1_2 b1_3 b5_0=>(eU fuel 0 [1,1,1,1,1,1,0,1,0,1,1,1]) ⟨mkE 290 [(2,.val aa last),(3,.box 0 0),(4,.box 1 0),(7,.box 5 0),(8,.val (.slice aa) r2),(9,.val (.slice aa) r3),(10,.own 6 0 aa r4),(11,.own 7 0 ac []),(32,.val aa r5),(63,.val .bool t63)],mkH 8 [(0,.box [.val (.slice ak) b0_0]),(1,.box [.val aa b1_0,.val aa b1_1,.val aa b1_2,.val aa b1_3]),(5,.box [.val (.slice ac) b5_0]),(6,.row aa 3 0),(7,.row ac 86 0)]⟩ (ai 0 (aw 0 (some gm) (eU fuel 0 [1,1,1,1,1,1,1]) nD))
def gn (fuel:Nat):eT AV:=fun w=>(eU fuel 0 [1,1,1,1,1,1,1]) ⟨mkE 290 [(11,.val (.slice ac) w)],mkH 0 []⟩ nD
def oZ (fuel:Nat):jE AV:=fun r39 b31_0 b31_1 b31_2 b31_3=>(eU fuel 0 [1,1,1,1,1,1,0,1,0,1,1,1,1,1,1,1,1,1,1,1,1,1,1,1,1,1,0,1,1,1]) ⟨mkE 290 [(11,.own 32 0 ac []),(20,.val aa r39),(21,.box 31 0)],mkH 33 [(0,.box [.unk]),(1,.box [.unk,.unk,.unk,.unk]),(5,.box [.unk]),(6,.row aa 3 0),(7,.row ac 86 1),(23,.row aa 3 1),(31,.box [.val aa b31_0,.val .bool b31_1,.val .str b31_2,.val aa b31_3]),(32,.row ac 86 0)]⟩ (ai 0 (aw 0 (some gm) (eU fuel 0 [1,1,1,1,1,1,1]) nD))
theorem Lm (fuel:Nat):qp fuel=oX true (sm bL) (o4 fuel) (o0 fuel):=by kernel_rfl
theorem HG (fuel:Nat):o4 fuel=mn true (sm bL) (gn fuel):=by kernel_rfl
theorem HE (fuel:Nat):o0 fuel=mm true (sm bL) (gn fuel) (oZ fuel):=by kernel_rfl
theorem HB (fuel:Nat):gn fuel=mj true (sm bL):=by kernel_rfl
theorem HC (fuel:Nat):oZ fuel=ml true (sm bL) (gn fuel):=by kernel_rfl
theorem oY:gn FU=mp1 bL (dK):=(HB FU).trans (by funext _; simp only [mj,dK,ss])
theorem HH:o4 FU=mp6 bL (dL):=(HG FU).trans (by rw [oY]; funext _ _ _ _ _ _; simp only [mn,dL,ss])
theorem HD:oZ FU=mp5 bL (gp):=(HC FU).trans (by rw [oY]; funext _ _ _ _ _; simp only [ml,gp,ss])
theorem HF:o0 FU=ahn bL (gq):=(HE FU).trans (by rw [oY,HD]; funext _ _ _ _ _ _ _ _ _ _ _ _; simp only [mm,gq,ss])
theorem Ln:qp FU=ahn bL (mi):=(Lm FU).trans (by rw [HH,HF]; funext _ _ _ _ _ _ _ _ _ _ _ _; simp only [oX,mi,ss])
theorem UF:ar Tryz.prog 27 (Fz):=evX Tryz.func27 (S:=FA) aW (bq ⟨M6,qZ,Tn,Be,SZ,adq,Vc,UW,ahr,ajN,PS,Vb,trivial⟩ trivial trivial trivial ⟨Aq,trivial⟩) (tys:=[(.slice ac)]) (fun fuel x=>sa true (sm bL) (qp fuel) x.1 x.2.1 x.2.2.1) (fun x=>by show _=Option.map bL _; rw [Ln]; simp only [sa,kz,ss])
abbrev dC (β:Type):=(List ae.den)→Int→Int→Int→Option β
abbrev fZ (β:Type):=(List ae.den)→Int→Int→Int→Int→Option β
def om (m:Bool) {β:Type} (K:Int→Option β) (k_l8:fZ β):dC β:=fun l site i x=>(k_l8 l site i x 0)
def qV (m:Bool) {β:Type} (K:Int→Option β) (k_l8:fZ β):dC β:=fun l site x i=>(bif (decide (i<(il l))) then (ck (bd i l.length) (ck (decide (0≤(20:Int))) (bif (decide ((Vg .i64 (ix ae l i).1 20)=site)) then (ck (bd i l.length) (fz m aa (ov x (ix ae l i).1) fun y3_=>(om m K k_l8 l site i y3_))) else (om m K k_l8 l site i x)))) else (K x))
def ol (m:Bool) {β:Type} (K:Int→Option β) (k_l8:fZ β):fZ β:=fun l site i t7 x=>(fz m aa (w64 (t7+1)) fun y4_=>(k_l8 l site i x y4_))
def qW (m:Bool) {β:Type} (K:Int→Option β) (k_l3:dC β):dC β:=fun l site i x=>(fz m aa (w64 (i+1)) fun y3_=>(k_l3 l site x y3_))
def qU (m:Bool) {β:Type} (K:Int→Option β) (k_l8:fZ β) (k_l3:dC β):fZ β:=fun l site i x t7=>(ck (bd i l.length) (bif (decide (t7<(il ((ix ae l i).2.2.2.2.1)))) then (ck (bd i l.length) (ck (bd t7 ((ix ae l i).2.2.2.2.1).length) (ck (decide (0≤(20:Int))) (bif (decide ((Vg .i64 (ix ac (ix ae l i).2.2.2.2.1 t7).1 20)=site)) then (ck (bd i l.length) (ck (bd t7 ((ix ae l i).2.2.2.2.1).length) (fz m aa (ov x (ix ac (ix ae l i).2.2.2.2.1 t7).1) fun y4_=>(ol m K k_l8 l site i t7 y4_)))) else (ol m K k_l8 l site i t7 x))))) else (qW m K k_l3 l site i x)))
def Bb (m:Bool) {β:Type} (K:Int→Option β) (k_l3:dC β) (l:(List ae.den)) (site:Int):Option β:=(ck (decide (0≤(20:Int))) (fz m aa (XZ .i64 site 20) fun y2_=>(k_l3 l site y2_ 0)))
def kg (k_l3:dC Int):Nat→fZ Int:=lp (fun _ _ _ _ _=>none) fun k_l8=>qU false some k_l8 k_l3
def oh:Nat→dC Int:=lp (fun _ _ _ _=>none) fun k_l3=>qV false some (kg k_l3 FU)
def oo (l:(List ae.den)) (site:Int):Option Int:=Bb false some (oh FU) l site
def Tv:Ent:=evE (.cons (.slice ae) (.cons aa .unit)) ax (zero aa) (fun x=>oo x.1 x.2.1)
def kf:MS:=⟨0,[],[(0,.dat (.slice ae)),(1,.dat aa),(5,.dat aa),(6,.dat aa)]⟩
def yw:MS:=⟨0,[],[(0,.dat (.slice ae)),(1,.dat aa),(5,.dat aa),(6,.dat aa),(7,.dat aa)]⟩
def Tw:Par:=⟨ca.tab,(ay []),(fun _=>ao [(7,kf),(9,yw),(4,kf)]),(fun _=>ao [(3,kf),(8,yw)])⟩
def sS (fuel lo:Nat) (p:List Nat):Sg→KT→Option AV:=xc (aD fi0 hs0 fuel 0) Tw lo fuel (sub ((Tryz.f26.body).getD .skip) p)
def og (fuel n:Nat):dC AV:=fun l site x i=>aB 0 kf (sS fuel 0 [1,1,0,1,0,0]) (ai 0 (aw 0 none (sS fuel 0 [1,1,1]) yU)) n ⟨mkE 65 [(0,.val (.slice ae) l),(1,.val aa site),(5,.val aa x),(6,.val aa i)],mkH 0 []⟩
def sR (fuel n3 n:Nat):fZ AV:=fun l site i x t7=>aB 0 yw (sS fuel 0 [1,1,0,1,0,0,1,0,0,1,1,0,0]) (ai 2 (ai 1 (aw 0 (some kf) (sS fuel 0 [1,1,0,1,0,0,1,1]) (kLp 0 kf (sS fuel 0 [1,1,0,1,0,0]) (ai 0 (aw 0 none (sS fuel 0 [1,1,1]) yU)) n3)))) n ⟨mkE 65 [(0,.val (.slice ae) l),(1,.val aa site),(5,.val aa x),(6,.val aa i),(7,.val aa t7)],mkH 0 []⟩
theorem VF (fuel n3:Nat):og fuel (n3+1)=qV true (sm ax) (sR fuel n3 fuel):=by kernel_rfl
theorem VD (fuel n3 n8:Nat):sR fuel n3 (n8+1)=qU true (sm ax) (sR fuel n3 n8) (og fuel n3):=by kernel_rfl
theorem VE (n3:Nat) {k_l3:dC Int} (h_l3:og FU n3=mp4 ax k_l3) : ∀ n,sR FU n3 n=mp5 ax (kg k_l3 n):=bo (by kernel_rfl) fun n8 _ h=>(VD FU n3 n8).trans (by rw [h,h_l3]; funext _ _ _ _ _; simp only [qU,qW,om,ol,ss])
theorem VG : ∀ n,og FU n=mp4 ax (oh n):=bo (by kernel_rfl) fun n3 _ h=>(VF FU n3).trans (by rw [VE n3 h FU]; funext _ _ _ _; simp only [qV,qW,om,ol,ss])
theorem adL:ar Tryz.prog 26 (Tv):=evX Tryz.func26 (S:=Tw) aW (ah trivial) (tys:=[aa]) (fun fuel x=>Bb true (sm ax) (og fuel fuel) x.1 x.2.1) (fun x=>by show _=Option.map ax _; rw [VG FU]; simp only [Bb,oo,qW,om,ol,ss])
abbrev d6:=(List ae.den)
abbrev i3 (β:Type):=(List ae.den)→ae.den→Int→Option β
def lu (m:Bool) {β:Type} (K:d6→Option β) (k_l2:i3 β):i3 β:=fun l c t5=>(nm m 2 (decide (t5<(il l))) (bd t5 l.length) (nq m [2,2,2,3,1] (decide (t5<(il l))) (bif (bif (decide (t5<(il l))) then (decide ((ix ae l t5).1<c.1)) else false) then (fz m aa (w64 (t5+1)) fun y2_=>(k_l2 l c y2_)) else (ck (decide (0≤t5)&&decide (t5≤(l.length:Int))) (ck (lm (List.length ([]:List ae.den)+List.length ((List.take (Int.toNat t5) l).drop 0))) (ck (lm (List.length ([]++((List.take (Int.toNat t5) l).drop 0))+List.length ([c]:List ae.den))) (ck (decide (0≤t5)&&decide (t5≤(l.length:Int))) (ck (lm (List.length (([]++((List.take (Int.toNat t5) l).drop 0))++[c])+List.length ((List.take (List.length l) l).drop (Int.toNat t5)))) (K ((([]++((List.take (Int.toNat t5) l).drop 0))++[c])++((List.take (List.length l) l).drop (Int.toNat t5))))))))))))
def sZ (m:Bool) {β:Type} (K:d6→Option β) (k_l2:i3 β) (l:(List ae.den)) (c:ae.den):Option β:=(k_l2 l c 0)
def mU:Nat→i3 d6:=lp (fun _ _ _=>none) fun k_l2=>lu false some k_l2
def lx (l:(List ae.den)) (c:ae.den):Option d6:=sZ false some (mU FU) l c
def d5 (r:d6):AV := .val (.slice ae) r
def GA:Ent:=evE (.cons (.slice ae) (.cons ae .unit)) d5 (zero (.slice ae)) (fun x=>lx x.1 x.2.1)
def zW:MS:=⟨1,[(0,[.dat aa,.dat (.slice aa),.dat (.slice aa),.dat .str,.dat (.slice ac)])],[(0,.dat (.slice ae)),(3,.keep),(5,.dat aa)]⟩
def GB:Par:=⟨ca.tab,(ay []),(fun _=>ao []),(fun _=>ao [(2,zW)])⟩
def GC:KT:=bc ca.tab [.tmp 4] [(.slice ae)]
def GD (fuel lo:Nat) (p:List Nat):Sg→KT→Option AV:=xc (aD fi0 hs0 fuel 0) GB lo fuel (sub ((Tryz.f9.body).getD .skip) p)
def mT (fuel n:Nat):i3 AV:=fun l c t5=>aB 0 zW (GD fuel 0 [1,1,0,0,0]) (ai 0 (aw 0 none (GD fuel 0 [1,1,1]) GC)) n ⟨mkE 37 [(0,.val (.slice ae) l),(3,.box 0 0),(5,.val aa t5)],mkH 1 [(0,.box [.val aa c.1,.val (.slice aa) c.2.1,.val (.slice aa) c.2.2.1,.val .str c.2.2.2.1,.val (.slice ac) c.2.2.2.2.1])]⟩
theorem Nt (fuel n2:Nat):mT fuel (n2+1)=lu true (sm d5) (mT fuel n2):=by kernel_rfl
theorem Nu : ∀ n,mT FU n=mp3 d5 (mU n):=bo (by kernel_rfl) fun n2 _ h=>(Nt FU n2).trans (by rw [h]; funext _ _ _; simp only [lu,ss])
theorem Wc:ar Tryz.prog 9 (GA):=evX Tryz.func9 (S:=GB) aW (ah trivial) (tys:=[(.slice ae)]) (fun fuel x=>sZ true (sm d5) (mT fuel fuel) x.1 x.2.1) (fun x=>by show _=Option.map d5 _; rw [Nu FU]; simp only [sZ,lx,ss])
abbrev Oz (β:Type):=(List ae.den)→Int→bB.den→(List Int)→Option β
abbrev KF (β:Type):=au.den→Int→(List Int)→(List Int)→Str→(List ac.den)→Option β
def jp (m:Bool) {β:Type} (K:gM→Option β):KF β:=fun r6 b7_0 b7_1 b7_2 b7_3 b7_4=>(cl m aa (lP r6 (b7_0,b7_1,b7_2,b7_3,b7_4,())) fun r12=>(K ((b7_0,b7_1,b7_2,b7_3,b7_4,()),(decide (r12=0)),())))
def lX (m:Bool) {β:Type} (K:gM→Option β):Oz β:=fun l r1 d parents=>(cl m (.slice aa) (qB l parents) fun r5=>(cl m au (l9 l r5) fun r6=>(cl m aa (oo l (w64 ((1:Int)+r1))) fun r7=>(cl m aa (bC (d.1) 13) fun r8=>(bif (decide (r8=12)) then (cl m aa (bC (d.2.2.1) (il l)) fun r9=>(ck (bd r9 l.length) (fz m aa (w64 (r7+1)) fun y1_=>(fz m (.slice aa) [(ix ae l r9).1] fun y3_=>(fz m .str [100,101,101,100] fun y4_=>(fz m (.slice ac) ((ix ae l r9).2.2.2.2.1) fun y5_=>(jp m K r6 y1_ r5 y3_ y4_ y5_))))))) else (cl m (.slice ac) (kz r6 d r7) fun r10=>(ck (lm (List.length ([]:List ae.den)+List.length l)) (ck (lm (List.length ([]++l)+List.length ([(0,r5,[],[100,101,101,100],r10,())]:List ae.den))) (cl m aa (oo (([]++l)++[(0,r5,[],[100,101,101,100],r10,())]) (w64 ((1:Int)+r1))) fun r11=>(fz m aa (w64 (r11+1)) fun y1_=>(fz m .str [100,101,101,100] fun y4_=>(jp m K r6 y1_ r5 [] y4_ r10))))))))))))
def tG (m:Bool) {β:Type} (K:gM→Option β) (l:(List ae.den)) (made:(List Int)) (d:bB.den):Option β:=(cl m aa (bC (d.2.1) 3) fun r1=>(ck (!decide ((3:Int)=0)) (cl m aa (bC (w64 (Int.tdiv d.2.1 3)) 3) fun r2=>(ck (bd (ov (w64 ((w64 ((il made)-1))-r2)) 0) made.length) (ck (!decide ((9:Int)=0)) (cl m aa (bC (w64 (Int.tdiv d.2.1 9)) 3) fun r3=>(bif (decide (r3=0)) then (ck (!decide ((27:Int)=0)) (cl m aa (bC (w64 (Int.tdiv d.2.1 27)) (il made)) fun r4=>(ck (bd r4 made.length) (ck (lm (List.length ([(ix aa made (ov (w64 ((w64 ((il made)-1))-r2)) 0))]:List Int)+List.length ([(ix aa made r4)]:List Int))) (fz m (.slice aa) ([(ix aa made (ov (w64 ((w64 ((il made)-1))-r2)) 0))]++[(ix aa made r4)]) fun y3_=>(lX m K l r1 d y3_)))))) else (fz m (.slice aa) [(ix aa made (ov (w64 ((w64 ((il made)-1))-r2)) 0))] fun y3_=>(lX m K l r1 d y3_)))))))))
def lY (l:(List ae.den)) (made:(List Int)) (d:bB.den):Option gM:=tG false some l made d
def G7:Ent:=evE (.cons (.slice ae) (.cons (.slice aa) (.cons bB .unit))) ji (zero (.cons ae (.cons .bool .unit))) (fun x=>lY x.1 x.2.1 x.2.2.1)
def OA:MS:=⟨2,[(0,[.dat aa,.dat aa,.dat aa,.dat aa]),(1,[.dat aa,.dat (.slice aa),.dat (.slice aa),.dat .str,.dat (.slice ac)])],[(0,.dat (.slice ae)),(5,.keep),(6,.keep),(8,.dat aa),(10,.own aa 3)]⟩
def KG:MS:=⟨14,[(0,[.drop,.drop,.drop,.drop]),(1,[.dat aa,.dat (.slice aa),.dat (.slice aa),.dat .str,.dat (.slice ac)]),(7,[.dat aa,.dat (.slice aa),.dat (.slice aa),.dat .str,.dat (.slice ac)]),(13,[.dat (.slice ak)])],[(6,.keep),(11,.keep),(12,.keep)]⟩
def WU:Par:=⟨ca.tab,(ay [(7,yB),(25,S8),(17,BD),(26,Tv),(27,Fz),(28,GU)]),(fun _=>ao [(6,OA),(14,KG)]),(fun _=>ao [])⟩
theorem WT:ar Tryz.prog 8 (G7):=evX Tryz.func8 (S:=WU) aW (ah ⟨qZ,acX,KV,adL,UF,WJ,trivial⟩) (tys:=[ae,.bool]) (fun fuel x=>tG true (sm ji) x.1 x.2.1 x.2.2.1) (fun x=>by show _=Option.map ji _; simp only [tG,lY,jp,lX,ss])
abbrev e8 (β:Type):=(List bB.den)→(List ae.den)→(List Int)→Int→Option β
abbrev IZ (β:Type):=(List bB.den)→Int→(List ae.den)→(List Int)→Option β
def i5 (m:Bool) {β:Type} (K:d6→Option β) (k_l5:e8 β):IZ β:=fun l i out made=>(fz m aa (w64 (i+1)) fun y3_=>(k_l5 l out made y3_))
def i4 (m:Bool) {β:Type} (K:d6→Option β) (k_l5:e8 β):e8 β:=fun l out made i=>(nq m [2,1] (decide (i<(il l))) (bif (bif (decide (i<(il l))) then (decide (i<9)) else false) then (ck (bd i l.length) (cl m (.cons ae (.cons .bool .unit)) (lY out made (ix bB l i)) fun r2=>(bif r2.2.1 then (cl m (.slice ae) (lx out (r2.1)) fun r3=>(ck (lm (List.length made+List.length ([r2.1.1]:List Int))) (fz m (.slice aa) (made++[r2.1.1]) fun y3_=>(i5 m K k_l5 l i r3 y3_)))) else (i5 m K k_l5 l i out made)))) else (K out)))
def pT (m:Bool) {β:Type} (K:d6→Option β) (k_l5:e8 β) (first:Int) (l:(List bB.den)):Option β:=(cl m ae (cC first) fun r1=>(fz m (.slice ae) [r1] fun y1_=>(fz m (.slice aa) [r1.1] fun y2_=>(k_l5 l y1_ y2_ 0))))
def jT:Nat→e8 d6:=lp (fun _ _ _ _=>none) fun k_l5=>i4 false some k_l5
def i6 (first:Int) (l:(List bB.den)):Option d6:=pT false some (jT FU) first l
def Dk:Ent:=evE (.cons aa (.cons (.slice bB) .unit)) d5 (zero (.slice ae)) (fun x=>i6 x.1 x.2.1)
def pU:MS:=⟨0,[],[(1,.dat (.slice bB)),(6,.dat (.slice ae)),(7,.own aa 3),(8,.dat aa)]⟩
def Dm:Par:=⟨ca.tab,(ay [(6,N7),(8,G7),(9,GA)]),(fun _=>ao [(6,pU)]),(fun _=>ao [(5,pU)])⟩
def Dn (fuel lo:Nat) (p:List Nat):Sg→KT→Option AV:=xc (aD fi0 hs0 fuel 0) Dm lo fuel (sub ((Tryz.f13.body).getD .skip) p)
def jS (fuel n:Nat):e8 AV:=fun l out made i=>aB 0 pU (Dn fuel 0 [1,1,1,1,0,1,0,0]) (ai 0 (aw 0 none (Dn fuel 0 [1,1,1,1,1]) GC)) n ⟨mkE 48 [(1,.val (.slice bB) l),(6,.val (.slice ae) out),(7,.own 0 0 aa made),(8,.val aa i)],mkH 1 [(0,.row aa 3 0)]⟩
theorem I0 (fuel n5:Nat):jS fuel (n5+1)=i4 true (sm d5) (jS fuel n5):=by kernel_rfl
theorem I1 : ∀ n,jS FU n=mp4 d5 (jT n):=bo (by kernel_rfl) fun n5 _ h=>(I0 FU n5).trans (by rw [h]; funext _ _ _ _; simp only [i4,i5,ss])
theorem QT:ar Tryz.prog 13 (Dk):=evX Tryz.func13 (S:=Dm) aW (ah ⟨abt,WT,Wc,trivial⟩) (tys:=[(.slice ae)]) (fun fuel x=>pT true (sm d5) (jS fuel fuel) x.1 x.2.1) (fun x=>by show _=Option.map d5 _; rw [I1 FU]; simp only [pT,i6,i5,ss])
def xa (m:Bool) {β:Type} (K:(List Int)→Option β) (l:(List ae.den)):Option β:=(cl m (.slice aa) (oK l) fun r1=>(K r1))
def tf (l:(List ae.den)):Option (List Int):=xa false some l
def NE:Ent:=evE (.cons (.slice ae) .unit) bg (zero (.slice aa)) (fun x=>tf x.1)
def Ze:Par:=⟨ca.tab,(ay [(79,NC)]),(fun _=>ao []),(fun _=>ao [])⟩
theorem Zd:ar Tryz.prog 33 (NE):=evX Tryz.func33 (S:=Ze) aW (ah ⟨Zc,trivial⟩) (tys:=[(.slice aa)]) (fun fuel x=>xa true (sm bg) x.1) (fun x=>by show _=Option.map bg _; simp only [xa,tf,ss])
def Ut (m:Bool) {β:Type} (K:au.den→Option β) (l:(List ae.den)):Option β:=(cl m (.slice aa) (tf l) fun r1=>(cl m au (l9 l r1) fun r2=>(K r2)))
def EG (l:(List ae.den)):Option au.den:=Ut false some l
def agI:Ent:=evE (.cons (.slice ae) .unit) bN (zero au) (fun x=>EG x.1)
def alJ:Par:=⟨ca.tab,(ay [(33,NE),(17,BD)]),(fun _=>ao []),(fun _=>ao [])⟩
theorem alI:ar Tryz.prog 11 (agI):=evX Tryz.func11 (S:=alJ) aW (ah ⟨Zd,KV,trivial⟩) (tys:=[au]) (fun fuel x=>Ut true (sm bN) x.1) (fun x=>by show _=Option.map bN _; simp only [Ut,EG,ss])
end
end Go.Proofs.YtboikinjlmjgjaaGreat.Abs
