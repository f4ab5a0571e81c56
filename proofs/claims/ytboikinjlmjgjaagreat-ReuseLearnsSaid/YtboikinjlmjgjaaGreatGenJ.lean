/- The equations of the program's functions on the abstract machine. (Printed by gen.py; each is checked by the kernel.) -/
import Derived.Test.YtboikinjlmjgjaaGreatGenH
import Derived.Test.YtboikinjlmjgjaaGreatChecked
namespace Go.Proofs.YtboikinjlmjgjaaGreat.Abs
abbrev aY:Ty:=(.cons aa (.cons aa (.cons aa (.cons (.slice aK) (.cons (.jsl 3) .unit)))))
end Go.Proofs.YtboikinjlmjgjaaGreat.Abs
namespace Go.Proofs.YtboikinjlmjgjaaGreat.Abs
end Go.Proofs.YtboikinjlmjgjaaGreat.Abs
namespace Go.Proofs.YtboikinjlmjgjaaGreat.Abs
open Go
set_option linter.unusedSimpArgs false
set_option linter.unusedVariables false
noncomputable section
def U4:TabL:={
 ty:=[(3,aa),(4,.bool),(9,.str),(23,(.jsl 3)),(24,(.slice ac)),(35,(.slice aY)),(37,(.slice ak)),(39,au),(41,(.slice aK)),(43,aY),(48,aM),(51,ap),(53,aK),(75,ak),(86,ac)],
 cells:=[(3,1),(4,1),(9,1),(23,1),(24,1),(35,1),(37,1),(39,1),(41,1),(43,5),(48,1),(51,4),(53,5),(75,3),(86,6)],
 offs:=[((39,0),0),((43,0),0),((43,1),1),((43,2),2),((43,3),3),((43,4),4),((48,0),0),((51,0),0),((51,1),1),((51,2),2),((51,3),3),((53,0),0),((53,1),1),((75,0),0),((75,1),1),((75,2),2),((86,0),0),((86,1),1),((86,2),2)],
 one:=[],
 elem:=[(23,3),(24,86),(35,43),(37,75),(41,53)] }
theorem HN:TabOk Tryz.prog U4.tab:=TabL.ok (by kernel_rfl)
abbrev iK (β:Type):=(List aK.den)→Int→Option β
def kJ (m:Bool) {β:Type} (K:Bool→Option β) (k_l2:iK β):iK β:=fun l i=>(bif (decide (i<(il l))) then (ck (bd i l.length) (ck (bd 0 l.length) (bif (!eqD ap (ix aK l i).2.1 (ix aK l 0).2.1) then (K true) else (fz m aa (w64 (i+1)) fun y1_=>(k_l2 l y1_))))) else (K false))
def sn (m:Bool) {β:Type} (K:Bool→Option β) (k_l2:iK β) (l:(List aK.den)):Option β:=(k_l2 l 1)
def my:Nat→iK Bool:=lp (fun _ _=>none) fun k_l2=>kJ false some k_l2
def kK (l:(List aK.den)):Option Bool:=sn false some (my FU) l
def FL:Ent:=evE (.cons (.slice aK) .unit) af (zero .bool) (fun x=>kK x.1)
def zr:MS:=⟨0,[],[(0,.dat (.slice aK)),(3,.dat aa)]⟩
def FM:Par:=⟨U4.tab,(ay []),(fun _=>ao []),(fun _=>ao [(2,zr)])⟩
def UR:KT:=bc U4.tab [.tmp 2] [.bool]
def FN (fuel lo:Nat) (p:List Nat):Sg→KT→Option AV:=xc (aD fi0 hs0 fuel 0) FM lo fuel (sub ((Tryz.f90.body).getD .skip) p)
def mw (fuel n:Nat):iK AV:=fun l i=>aB 0 zr (FN fuel 0 [1,0,1,0,0]) (ai 0 (aw 0 none (FN fuel 0 [1,1]) UR)) n ⟨mkE 20 [(0,.val (.slice aK) l),(3,.val aa i)],mkH 0 []⟩
theorem LK (fuel n2:Nat):mw fuel (n2+1)=kJ true (sm af) (mw fuel n2):=by kernel_rfl
theorem LL : ∀ n,mw FU n=mp2 af (my n):=bo (by kernel_rfl) fun n2 _ h=>(LK FU n2).trans (by rw [h]; funext _ _; simp only [kJ,ss])
theorem UQ:ar Tryz.prog 90 (FL):=evX Tryz.func90 (S:=FM) HN (ah trivial) (tys:=[.bool]) (fun fuel x=>sn true (sm af) (mw fuel fuel) x.1) (fun x=>by show _=Option.map af _; rw [LL FU]; simp only [sn,kK,ss])
abbrev bT:=(List aY.den)
abbrev cR (β:Type):=aM.den→Nat→Int→(List aY.den)→Option β
abbrev Oq (β:Type):=Int→aM.den→Nat→(List aY.den)→Option β
abbrev jj (β:Type):=Int→aM.den→Nat→Int→(List aY.den)→Option β
abbrev fa (β:Type):=Nat→(List aY.den)→Int→(List aY.den)→Option β
abbrev KB (β:Type):=Int→Nat→(List aY.den)→(List aY.den)→Option β
def dR (m:Bool) {β:Type} (K:bT→Option β) (k_l3:cR β):Oq β:=fun i t0 out_hi out=>(fz m aa (w64 (i+1)) fun y2_=>(k_l3 t0 out_hi y2_ out))
def lV (m:Bool) {β:Type} (K:bT→Option β) (k_l3:cR β) (k_l8:jj β) (k_l16:fa β):cR β:=fun t0 out_hi i out=>(bif (decide (i<(il t0.1))) then (ck (bd i t0.1.length) (nq m [2,2,2,0] (!(!decide ((ix ac t0.1 i).2.1=2))) (nq m [2,2,2,0] (!(bif (!decide ((ix ac t0.1 i).2.1=2)) then true else (decide ((ix ac t0.1 i).2.2.1.2.2.2.1=0)))) (nq m [2,2,2,0] (!(bif (bif (!decide ((ix ac t0.1 i).2.1=2)) then true else (decide ((ix ac t0.1 i).2.2.1.2.2.2.1=0))) then true else (decide ((ix ac t0.1 i).2.2.1.1<1)))) (bif (bif (bif (bif (!decide ((ix ac t0.1 i).2.1=2)) then true else (decide ((ix ac t0.1 i).2.2.1.2.2.2.1=0))) then true else (decide ((ix ac t0.1 i).2.2.1.1<1))) then true else (decide ((ix ac t0.1 i).2.2.1.1>3))) then (dR m K k_l3 i t0 out_hi out) else (k_l8 i t0 out_hi 0 out)))))) else (k_l16 out_hi [] 0 out))
def lU (m:Bool) {β:Type} (K:bT→Option β) (k_l8:jj β) (k_l3:cR β):jj β:=fun i t0 out_hi t6 out=>(nm m 2 (decide (t6<(ni out_hi))) (decide (0≤t6)&&decide (t6<(ni out_hi))) (nq m [2,2] (decide (t6<(ni out_hi))) (nm m 2 (decide (t6<(ni out_hi))) (decide (0≤t6)&&decide (t6<(ni out_hi))) (nq m [2,2,2,2,2,2] (decide (t6<(ni out_hi))) (ck (((ii (decide (t6<(ni out_hi))))&&((ii (decide (t6<(ni out_hi))))&&((ii (decide (t6<(ni out_hi))))&&((ii (decide (t6<(ni out_hi))))&&true))))&&true) (nq m [1] (decide (t6<(ni out_hi))) (bif (bif (decide (t6<(ni out_hi))) then (jC ((List.getD out (0+Int.toNat t6) (zero aY)).2.1) ((List.getD out (0+Int.toNat t6) (zero aY)).2.2.1) ((ix ac t0.1 i).2.2.1.2.2.2.1) ((ix ac t0.1 i).2.2.1.1)) else false) then (fz m aa (w64 (t6+1)) fun y3_=>(k_l8 i t0 out_hi y3_ out)) else (nm m 2 (decide (t6<(ni out_hi))) (decide (0≤t6)&&decide (t6<(ni out_hi))) (nq m [2,2,2,2,3,1] (decide (t6<(ni out_hi))) (nm m 2 (bif (decide (t6<(ni out_hi))) then (decide ((List.getD out (0+Int.toNat t6) (zero aY)).2.1=(ix ac t0.1 i).2.2.1.2.2.2.1)) else false) (decide (0≤t6)&&decide (t6<(ni out_hi))) (nq m [2,2,2,2,3,1] (bif (decide (t6<(ni out_hi))) then (decide ((List.getD out (0+Int.toNat t6) (zero aY)).2.1=(ix ac t0.1 i).2.2.1.2.2.2.1)) else false) (bif (bif (bif (decide (t6<(ni out_hi))) then (decide ((List.getD out (0+Int.toNat t6) (zero aY)).2.1=(ix ac t0.1 i).2.2.1.2.2.2.1)) else false) then (decide ((List.getD out (0+Int.toNat t6) (zero aY)).2.2.1=(ix ac t0.1 i).2.2.1.1)) else false) then (ck (decide (0≤t6)&&decide (t6<(ni out_hi))) (ck (lm (Nat.add ((List.getD out (0+Int.toNat t6) (zero aY)).2.2.2.2.1) 1)) (ck (decide (0≤t6)&&decide (t6<(ni out_hi))) (fz m (.slice aY) (List.set out (0+Int.toNat t6) ((List.getD out (0+Int.toNat t6) (zero aY)).1,(List.getD out (0+Int.toNat t6) (zero aY)).2.1,(List.getD out (0+Int.toNat t6) (zero aY)).2.2.1,(List.getD out (0+Int.toNat t6) (zero aY)).2.2.2.1,(Nat.add ((List.getD out (0+Int.toNat t6) (zero aY)).2.2.2.2.1) 1),())) fun y3_=>(dR m K k_l3 i t0 out_hi y3_))))) else (ck (decide (0≤t6)&&decide (t6≤(ni out_hi))) (ck (lm (List.length ([]:List aY.den)+List.length ((List.take (0+out_hi) out).drop (0+(Int.toNat t6))))) (ck (decide (0≤t6)&&decide (t6≤(ni out_hi))) (ck (lm ((0+(Int.toNat t6))+List.length ([(2,(ix ac t0.1 i).2.2.1.2.2.2.1,(ix ac t0.1 i).2.2.1.1,[],1,())]:List aY.den))) (ck (lm (((0+(Int.toNat t6))+List.length ([(2,(ix ac t0.1 i).2.2.1.2.2.2.1,(ix ac t0.1 i).2.2.1.1,[],1,())]:List aY.den))+List.length (([]:List aY.den)++((List.take (0+out_hi) out).drop (0+(Int.toNat t6)))))) (fm m (((0+(Int.toNat t6))+List.length ([(2,(ix ac t0.1 i).2.2.1.2.2.2.1,(ix ac t0.1 i).2.2.1.1,[],1,())]:List aY.den))+List.length (([]:List aY.den)++((List.take (0+out_hi) out).drop (0+(Int.toNat t6))))) fun y2_=>(fz m (.slice aY) (List.take ((0+(Int.toNat t6))+List.length ([(2,(ix ac t0.1 i).2.2.1.2.2.2.1,(ix ac t0.1 i).2.2.1.1,[],1,())]:List aY.den)) (List.take (0+(Int.toNat t6)) out++[(2,(ix ac t0.1 i).2.2.1.2.2.2.1,(ix ac t0.1 i).2.2.1.1,[],1,())])++(([]:List aY.den)++((List.take (0+out_hi) out).drop (0+(Int.toNat t6))))) fun y3_=>(dR m K k_l3 i t0 y2_ y3_))))))))))))))))))))
def eN (m:Bool) {β:Type} (K:bT→Option β) (k_l16:fa β):KB β:=fun i out_hi two out=>(fz m aa (w64 (i+1)) fun y2_=>(k_l16 out_hi two y2_ out))
def jo (m:Bool) {β:Type} (K:bT→Option β) (k_l16:fa β):fa β:=fun out_hi two i out=>(bif (decide (i<(ni out_hi))) then (ck (decide (0≤i)&&decide (i<(ni out_hi))) (bif (decide ((((List.getD out (0+Int.toNat i) (zero aY)).2.2.2.2.1:Nat):Int)>1)) then (ck (decide (0≤i)&&decide (i<(ni out_hi))) (ck (lm (List.length two+List.length ([(List.getD out (0+Int.toNat i) (zero aY))]:List aY.den))) (fz m (.slice aY) (two++[(List.getD out (0+Int.toNat i) (zero aY))]) fun y2_=>(eN m K k_l16 i out_hi y2_ out)))) else (eN m K k_l16 i out_hi two out))) else (K two))
def tE (m:Bool) {β:Type} (K:bT→Option β) (k_l3:cR β) (t0:aM.den):Option β:=(k_l3 t0 0 0 [])
def jm (k_l3:cR bT):Nat→jj bT:=lp (fun _ _ _ _ _=>none) fun k_l8=>lU false some k_l8 k_l3
def gP:Nat→fa bT:=lp (fun _ _ _ _=>none) fun k_l16=>jo false some k_l16
def jn:Nat→cR bT:=lp (fun _ _ _ _=>none) fun k_l3=>lV false some k_l3 (jm k_l3 FU) (gP FU)
def lW (t0:aM.den):Option bT:=tE false some (jn FU) t0
def cD (r:bT):AV := .val (.slice aY) r
def G4:Ent:=evE (.cons aM .unit) cD (zero (.slice aY)) (fun x=>lW x.1)
def jl:MS:=⟨1,[(0,[.dat (.slice ac)])],[(1,.keep),(3,.mut aY 43),(4,.dat aa)]⟩
def Av:MS:=⟨13,[(0,[.dat (.slice ac)]),(12,[.dat aa,.dat aa,.dat aa,.dat .bool,.dat .str,.dat aa])],[(1,.keep),(3,.mut aY 43),(4,.dat aa),(5,.keep),(6,.dat aa)]⟩
def qb:MS:=⟨0,[],[(3,.mut aY 43),(8,.own aY 43),(9,.dat aa)]⟩
def G5:Par:=⟨U4.tab,(ay [(85,nb)]),(fun _=>ao [(4,jl),(17,qb)]),(fun _=>ao [(3,jl),(8,Av),(16,qb)])⟩
def tF:KT:=bc U4.tab [.tmp 2] [(.slice aY)]
def fb (fuel lo:Nat) (p:List Nat):Sg→KT→Option AV:=xc (aD fi0 hs0 fuel 0) G5 lo fuel (sub ((Tryz.f91.body).getD .skip) p)
def ge (fuel n:Nat):cR AV:=fun t0 out_hi i out=>aB 0 jl (fb fuel 0 [1,1,0,1,0,0]) (ai 0 (aw 0 none (fb fuel 0 [1,1,1]) tF)) n ⟨mkE 150 [(1,.box 0 0),(3,.msl 1 0 0 out_hi),(4,.val aa i)],mkH 2 [(0,.box [.val (.slice ac) t0.1]),(1,.mrow aY 43 0 out)]⟩
def m5 (fuel n3 n:Nat):jj AV:=fun i t0 out_hi t6 out=>aB 0 Av (fb fuel 0 [1,1,0,1,0,0,1,0,0,1,1,1,0,0,0]) (ai 2 (aw 0 none (fb fuel 0 [1,1,0,1,0,0,1,0,0,1,1,1,1]) (ai 1 (aw 0 (some jl) (fb fuel 0 [1,1,0,1,0,0,1,1]) (kLp 0 jl (fb fuel 0 [1,1,0,1,0,0]) (ai 0 (aw 0 none (fb fuel 0 [1,1,1]) tF)) n3))))) n ⟨mkE 150 [(1,.box 0 0),(3,.msl 13 0 0 out_hi),(4,.val aa i),(5,.box 12 0),(6,.val aa t6)],mkH 14 [(0,.box [.val (.slice ac) t0.1]),(1,.dead),(12,.box [.val aa (ix ac t0.1 i).1,.val aa (ix ac t0.1 i).2.1,.val aa (ix ac t0.1 i).2.2.1.1,.val .bool (ix ac t0.1 i).2.2.1.2.1,.val .str (ix ac t0.1 i).2.2.1.2.2.1,.val aa (ix ac t0.1 i).2.2.1.2.2.2.1]),(13,.mrow aY 43 0 out)]⟩
def j6 (fuel n:Nat):fa AV:=fun out_hi two i out=>aB 0 qb (fb fuel 0 [1,1,1,1,0,1,0,0]) (ai 4 (aw 0 none (fb fuel 0 [1,1,1,1,1]) tF)) n ⟨mkE 150 [(3,.msl 0 0 0 out_hi),(8,.own 1 0 aY two),(9,.val aa i)],mkH 2 [(0,.mrow aY 43 0 out),(1,.row aY 43 0)]⟩
theorem Ov (fuel n3:Nat):ge fuel (n3+1)=lV true (sm cD) (ge fuel n3) (m5 fuel n3 fuel) (j6 fuel fuel):=by kernel_rfl
theorem Ot (fuel n3 n8:Nat):m5 fuel n3 (n8+1)=lU true (sm cD) (m5 fuel n3 n8) (ge fuel n3):=by kernel_rfl
theorem KC (fuel n16:Nat):j6 fuel (n16+1)=jo true (sm cD) (j6 fuel n16):=by kernel_rfl
theorem Ou (n3:Nat) {k_l3:cR bT} (h_l3:ge FU n3=mp4 cD k_l3) : ∀ n,m5 FU n3 n=mp5 cD (jm k_l3 n):=bo (by kernel_rfl) fun n8 _ h=>(Ot FU n3 n8).trans (by rw [h,h_l3]; funext _ _ _ _ _; simp only [lU,eN,dR,ss])
theorem KD : ∀ n,j6 FU n=mp4 cD (gP n):=bo (by kernel_rfl) fun n16 _ h=>(KC FU n16).trans (by rw [h]; funext _ _ _ _; simp only [jo,eN,dR,ss])
theorem Ow : ∀ n,ge FU n=mp4 cD (jn n):=bo (by kernel_rfl) fun n3 _ h=>(Ov FU n3).trans (by rw [h,Ou n3 h FU,KD FU]; funext _ _ _ _; simp only [lV,eN,dR,ss])
theorem WS:ar Tryz.prog 91 (G4):=evX Tryz.func91 (S:=G5) HN (ah ⟨xY,trivial⟩) (tys:=[(.slice aY)]) (fun fuel x=>tE true (sm cD) (ge fuel fuel) x.1) (fun x=>by show _=Option.map cD _; rw [Ow FU]; simp only [tE,lW,eN,dR,ss])
abbrev oa (β:Type):=au.den→(List aY.den)→Int→Option β
abbrev Yg (β:Type):=Int→au.den→(List aY.den)→Option β
def wb (m:Bool) {β:Type} (K:bT→Option β) (k_l3:oa β):Yg β:=fun i s out=>(fz m aa (w64 (i+1)) fun y2_=>(k_l3 s out y2_))
def wa (m:Bool) {β:Type} (K:bT→Option β) (k_l3:oa β):oa β:=fun s out i=>(bif (decide (i<(il s.1))) then (ck (bd i s.1.length) (cl m .bool (kK ((ix ak s.1 i).2.2.1)) fun r1=>(bif r1 then (ck (lm (List.length out+List.length ([(1,(ix ak s.1 i).1,(ix ak s.1 i).2.1,(ix ak s.1 i).2.2.1,0,())]:List aY.den))) (fz m (.slice aY) (out++[(1,(ix ak s.1 i).1,(ix ak s.1 i).2.1,(ix ak s.1 i).2.2.1,0,())]) fun y2_=>(wb m K k_l3 i s y2_))) else (wb m K k_l3 i s out)))) else (ce m aM (stG s) (bJ s) fun r2=>(cl m (.slice aY) (lW r2) fun r3=>(ck (lm (out.length+r3.length)) (K (out++r3))))))
def Id (m:Bool) {β:Type} (K:bT→Option β) (k_l3:oa β) (s:au.den):Option β:=(k_l3 s [] 0)
def v8:Nat→oa bT:=lp (fun _ _ _=>none) fun k_l3=>wa false some k_l3
def wc (s:au.den):Option bT:=Id false some (v8 FU) s
def Yj:Ent:=evE (.cons au .unit) cD (zero (.slice aY)) (fun x=>wc x.1)
def CE:MS:=⟨1,[(0,[.dat (.slice ak)])],[(1,.keep),(3,.own aY 43),(4,.dat aa)]⟩
def Yl:Par:=⟨U4.tab,(ay [(90,FL),(61,wD),(91,G4)]),(fun _=>ao [(4,CE)]),(fun _=>ao [(3,CE)])⟩
def Ym (fuel lo:Nat) (p:List Nat):Sg→KT→Option AV:=xc (aD fi0 hs0 fuel 0) Yl lo fuel (sub ((Tryz.f41.body).getD .skip) p)
def v7 (fuel n:Nat):oa AV:=fun s out i=>aB 0 CE (Ym fuel 0 [1,1,0,1,0,0]) (ai 0 (aw 0 none (Ym fuel 0 [1,1,1]) tF)) n ⟨mkE 36 [(1,.box 0 0),(3,.own 1 0 aY out),(4,.val aa i)],mkH 2 [(0,.box [.val (.slice ak) s.1]),(1,.row aY 43 0)]⟩
theorem Yh (fuel n3:Nat):v7 fuel (n3+1)=wa true (sm cD) (v7 fuel n3):=by kernel_rfl
theorem Yi : ∀ n,v7 FU n=mp3 cD (v8 n):=bo (by kernel_rfl) fun n3 _ h=>(Yh FU n3).trans (by rw [h]; funext _ _ _; simp only [wa,wb,ss])
theorem ag4:ar Tryz.prog 41 (Yj):=evX Tryz.func41 (S:=Yl) HN (ah ⟨UQ,M6,WS,trivial⟩) (tys:=[(.slice aY)]) (fun fuel x=>Id true (sm cD) (v7 fuel fuel) x.1) (fun x=>by show _=Option.map cD _; rw [Yi FU]; simp only [Id,wc,wb,ss])
end
end Go.Proofs.YtboikinjlmjgjaaGreat.Abs
