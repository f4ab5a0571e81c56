/- The equations of the program's functions on the abstract machine. (Printed by gen.py; each is checked by the kernel.) -/
import Derived.Shelf.SlSortCmp.WholeK
import Derived.Shelf.SlSortCmp.NoneTotal
import Derived.Test.YtboikinjlmjgjaaGreatProg
import Derived.Test.YtboikinjlmjgjaaGreatGenP
import Derived.Test.YtboikinjlmjgjaaGreatChainP
import Derived.Test.YtboikinjlmjgjaaGreatChecked
namespace Go.Proofs
open Go.Shelf
def Tryz.laysR_ren:Go.Shelf.Ren:=⟨fun | 6=>95 | 15=>115 | 14=>119 | 28=>146 | 29=>147 | 20=>156 | 21=>157 | 22=>158 | 23=>159 | 24=>160 | 25=>161 | 26=>162 | 27=>163 | 46=>191 | 47=>184 | 48=>185 | 49=>192 | 50=>193 | 57=>213 | n=>n,fun | 22=>58 | 24=>91 | 25=>88 | 3=>3 | 39=>119 | 0=>0 | 53=>199 | 55=>201 | 4=>4 | 46=>192 | 45=>191 | 50=>196 | 5=>5 | 9=>9 | 66=>228 | 70=>232 | 76=>245 | 77=>109 | n=>n,fun | n=>n⟩
theorem Tryz.laysR:Go.Proofs.SlLaysF0.n6 Tryz.prog Tryz.laysR_ren:={
 mixed:=by kernel_rfl
 f6:=⟨Tryz.f95.name,by decide,Tryz.func95.trans (congrArg some (by kernel_rfl))⟩
 f14:=⟨Tryz.f119.name,by decide,Tryz.func119.trans (congrArg some (by kernel_rfl))⟩
 f15:=Tryz.func115.trans (congrArg some (by kernel_rfl))
 f20:=⟨Tryz.f156.name,by decide,Tryz.func156.trans (congrArg some (by kernel_rfl))⟩
 f21:=⟨Tryz.f157.name,by decide,Tryz.func157.trans (congrArg some (by kernel_rfl))⟩
 f22:=⟨Tryz.f158.name,by decide,Tryz.func158.trans (congrArg some (by kernel_rfl))⟩
 f23:=⟨Tryz.f159.name,by decide,Tryz.func159.trans (congrArg some (by kernel_rfl))⟩
 f24:=⟨Tryz.f160.name,by decide,Tryz.func160.trans (congrArg some (by kernel_rfl))⟩
 f25:=⟨Tryz.f161.name,by decide,Tryz.func161.trans (congrArg some (by kernel_rfl))⟩
 f26:=⟨Tryz.f162.name,by decide,Tryz.func162.trans (congrArg some (by kernel_rfl))⟩
 f27:=⟨Tryz.f163.name,by decide,Tryz.func163.trans (congrArg some (by kernel_rfl))⟩
 f28:=Tryz.func146.trans (congrArg some (by kernel_rfl))
 f29:=Tryz.func147.trans (congrArg some (by kernel_rfl))
 f46:=⟨Tryz.f191.name,by decide,Tryz.func191.trans (congrArg some (by kernel_rfl))⟩
 f47:=Tryz.func184.trans (congrArg some (by kernel_rfl))
 f48:=Tryz.func185.trans (congrArg some (by kernel_rfl))
 f49:=⟨Tryz.f192.name,by decide,Tryz.func192.trans (congrArg some (by kernel_rfl))⟩
 f50:=⟨Tryz.f193.name,by decide,Tryz.func193.trans (congrArg some (by kernel_rfl))⟩
 f57:=⟨Tryz.f213.name,by decide,Tryz.func213.trans (congrArg some (by kernel_rfl))⟩
 t0:=Tryz.underlying0
 a0:=Tryz.isAgg0
 z0:=Tryz.sizeOf0
 v0:=Tryz.zeroValue0
 t3:=Tryz.underlying3
 a3:=Tryz.isAgg3
 z3:=Tryz.sizeOf3
 v3:=Tryz.zeroValue3
 t4:=Tryz.underlying4
 a4:=Tryz.isAgg4
 z4:=Tryz.sizeOf4
 v4:=Tryz.zeroValue4
 t5:=Tryz.underlying5
 a5:=Tryz.isAgg5
 z5:=Tryz.sizeOf5
 v5:=Tryz.zeroValue5
 t9:=Tryz.underlying9
 a9:=Tryz.isAgg9
 z9:=Tryz.sizeOf9
 v9:=Tryz.zeroValue9
 t22:=Tryz.underlying58
 a22:=Tryz.isAgg58
 z22:=Tryz.sizeOf58
 v22:=Tryz.zeroValue58
 t25:=Tryz.underlying88
 a25:=Tryz.isAgg88
 z25:=Tryz.sizeOf88
 v25:=Tryz.zeroValue88
 t39:=Tryz.underlying119
 a39:=Tryz.isAgg119
 z39:=Tryz.sizeOf119
 v39:=Tryz.zeroValue119
 t45:=Tryz.underlying191
 a45:=Tryz.isAgg191
 z45:=Tryz.sizeOf191
 v45:=Tryz.zeroValue191
 t46:=Tryz.underlying192
 a46:=Tryz.isAgg192
 z46:=Tryz.sizeOf192
 v46:=Tryz.zeroValue192
 t50:=Tryz.underlying196
 a50:=Tryz.isAgg196
 z50:=Tryz.sizeOf196
 v50:=Tryz.zeroValue196
 t53:=Tryz.underlying199
 a53:=Tryz.isAgg199
 z53:=Tryz.sizeOf199
 v53:=Tryz.zeroValue199
 t55:=Tryz.underlying201
 a55:=Tryz.isAgg201
 z55:=Tryz.sizeOf201
 v55:=Tryz.zeroValue201
 t66:=Tryz.underlying228
 a66:=Tryz.isAgg228
 z66:=Tryz.sizeOf228
 v66:=Tryz.zeroValue228
 t70:=Tryz.underlying232
 a70:=Tryz.isAgg232
 z70:=Tryz.sizeOf232
 v70:=Tryz.zeroValue232
 t76:=Tryz.underlying245
 a76:=Tryz.isAgg245
 z76:=Tryz.sizeOf245
 v76:=Tryz.zeroValue245
 t77:=Tryz.underlying109
 a77:=Tryz.isAgg109
 z77:=Tryz.sizeOf109
 v77:=Tryz.zeroValue109 }
end Go.Proofs
namespace Go.Proofs.YtboikinjlmjgjaaGreat.Abs
end Go.Proofs.YtboikinjlmjgjaaGreat.Abs
namespace Go.Proofs.YtboikinjlmjgjaaGreat.Abs
open Go
theorem afL (x y:Rec):KO [.val ag x,.val ag y]=some (B2 x y,.val aa (gW x y)):=by kernel_rfl
def Pw:K9:=Mb ag 91 96 gW zK
theorem agV:zk Tryz.prog 95 Pw :=
 Cg rfl (by kernel_rfl) (by decide) ⟨Tryz.f95,Tryz.func95,by kernel_rfl,by kernel_rfl⟩
  (fun enc hk h1 cf hO g cb blk off cap d w eg hcmp hH hb hs=>AnyQ.slices_SortFunc Tryz.laysR _ Tryz.isAgg91 Tryz.sizeOf91 enc hk h1 cf hO g cb blk off cap d w eg hcmp hH hb hs)
  (fun p cap fv w=>AnyF.slices_SortFunc_none Tryz.laysR p cap fv w) Ew
  (fun x y hx hy=>jR ab3 (xs:=[⟨_,x⟩,⟨_,y⟩]) ((afL x y).trans (by rw [S6 hx hy])))
end Go.Proofs.YtboikinjlmjgjaaGreat.Abs
namespace Go.Proofs.YtboikinjlmjgjaaGreat.Abs
open Go
set_option linter.unusedSimpArgs false
set_option linter.unusedVariables false
noncomputable section
def ux:TabL:={
 ty:=[(3,aa),(4,.bool),(9,.str),(23,(.slice aa)),(41,(.slice aK)),(43,aG),(51,ap),(53,aK),(58,(.slice ag)),(89,(.slice ap)),(91,ag),(146,(.slice (.slice ag)))],
 cells:=[(3,1),(4,1),(9,1),(23,1),(41,1),(43,5),(51,4),(53,5),(58,1),(88,1),(89,1),(91,7),(146,1),(149,1)],
 offs:=[((43,0),0),((43,1),1),((43,2),2),((43,3),3),((43,4),4),((51,0),0),((51,1),1),((51,2),2),((51,3),3),((53,0),0),((53,1),1),((91,0),0),((91,1),1),((91,2),2),((91,3),3)],
 one:=[],
 elem:=[(23,3),(41,53),(58,91),(89,51),(146,58)] }
theorem pg:TabOk Tryz.prog ux.tab:=TabL.ok (by kernel_rfl)
abbrev rC (β:Type):=(List ap.den)→(List ap.den)→Int→Option β
def Kx (m:Bool) {β:Type} (K:Bool→Option β) (k_l4:rC β):rC β:=fun s1 s2 t13=>(bif (decide (t13<(il s1))) then (ck (bd t13 s1.length) (ck (bd t13 s2.length) (bif (!eqD ap (ix ap s1 t13) (ix ap s2 t13)) then (K false) else (fz m aa (w64 (t13+1)) fun y2_=>(k_l4 s1 s2 y2_))))) else (K true))
def Sn (m:Bool) {β:Type} (K:Bool→Option β) (k_l4:rC β) (s1:(List ap.den)) (s2:(List ap.den)):Option β:=(bif (!decide ((il s1)=(il s2))) then (K false) else (k_l4 s1 s2 0))
def Oh:Nat→rC Bool:=lp (fun _ _ _=>none) fun k_l4=>Kx false some k_l4
def Bz (s1:(List ap.den)) (s2:(List ap.den)):Option Bool:=Sn false some (Oh FU) s1 s2
def abG:Ent:=evE (.cons (.slice ap) (.cons (.slice ap) .unit)) af (zero .bool) (fun x=>Bz x.1 x.2.1)
def Of:MS:=⟨0,[],[(0,.dat (.slice ap)),(1,.dat (.slice ap)),(12,.dat aa),(13,.dat aa)]⟩
def abH:Par:=⟨ux.tab,(ay []),(fun _=>ao []),(fun _=>ao [(4,Of)])⟩
def abI:KT:=bc ux.tab [.tmp 4] [.bool]
def abJ (fuel lo:Nat) (p:List Nat):Sg→KT→Option AV:=xc (aD fi0 hs0 fuel 0) abH lo fuel (sub ((Tryz.f92.body).getD .skip) p)
def xE (fuel n:Nat):rC AV:=fun s1 s2 t13=>aB 0 Of (abJ fuel 0 [1,1,0,1,0,0]) (ai 0 (aw 0 none (abJ fuel 0 [1,1,1]) abI)) n ⟨mkE 26 [(0,.val (.slice ap) s1),(1,.val (.slice ap) s2),(12,.val aa (il s1)),(13,.val aa t13)],mkH 0 []⟩
theorem abE (fuel n4:Nat):xE fuel (n4+1)=Kx true (sm af) (xE fuel n4):=by kernel_rfl
theorem abF : ∀ n,xE FU n=mp3 af (Oh n):=bo (by kernel_rfl) fun n4 _ h=>(abE FU n4).trans (by rw [h]; funext _ _ _; simp only [Kx,ss])
theorem ajt:ar Tryz.prog 92 (abG):=evX Tryz.func92 (S:=abH) pg (ah trivial) (tys:=[.bool]) (fun fuel x=>Sn true (sm af) (xE fuel fuel) x.1 x.2.1) (fun x=>by show _=Option.map af _; rw [abF FU]; simp only [Sn,Bz,ss])
def Cn (m:Bool) {β:Type} (K:Bool→Option β) (x:ag.den) (y:ag.den):Option β:=(ce m aa (B2 x y) (gW x y) fun r1=>(K (decide (r1=0))))
def sD (x:ag.den) (y:ag.den):Option Bool:=Cn false some x y
def Mj:Ent:=evE (.cons ag (.cons ag .unit)) af (zero .bool) (fun x=>sD x.1 x.2.1)
def X8:Par:=⟨ux.tab,(ay [(96,KO)]),(fun _=>ao []),(fun _=>ao [])⟩
theorem X7:ar Tryz.prog 98 (Mj):=evX Tryz.func98 (S:=X8) pg (ah ⟨ab3,trivial⟩) (tys:=[.bool]) (fun fuel x=>Cn true (sm af) x.1 x.2.1) (fun x=>by show _=Option.map af _; simp only [Cn,sD,ss])
abbrev bS:=(List ag.den)
abbrev gR (β:Type):=(List ag.den)→(List ag.den)→Nat→Int→(List ag.den)→Option β
abbrev jv (β:Type):=(List ag.den)→(List ag.den)→Int→Nat→Int→(List ag.den)→Option β
abbrev cN (β:Type):=Nat→(List ag.den)→(List ag.den)→Int→Nat→Int→(List ag.den)→Option β
abbrev Xf (β:Type):=(List ag.den)→(List ag.den)→Int→Int→Nat→(List ag.den)→Int→Int→(List ap.den)→Int→Bool→Str→Int→Option β
abbrev fd (β:Type):=Nat→(List ag.den)→(List ag.den)→Int→Nat→Int→Nat→Nat→Int→(List ag.den)→Option β
abbrev Fu (β:Type):=Int→Nat→(List ag.den)→(List ag.den)→Int→Nat→Int→Nat→Nat→(List ag.den)→Option β
def qf (m:Bool) {β:Type} (K:bS→Option β) (k_l6:jv β) (k_f97_l4:cN β):gR β:=fun a b l_hi t15 l=>(bif (decide (t15<(il ([a,b]:List (List ag.den))))) then (ck (bd t15 ([a,b]:List (List ag.den)).length) (k_l6 a b t15 l_hi 0 l)) else (ck (decide (List.length l≤LIM)&&List.all l zK) (bif (decide ((ni l_hi)<2)) then (K ((List.take l_hi (List.take 0 l++dv gW ((List.take l_hi l).drop 0)++List.drop l_hi l)).drop 0)) else (fz m (.slice ag) (List.take 0 l++dv gW ((List.take l_hi l).drop 0)++List.drop l_hi l) fun y6_=>(k_f97_l4 l_hi a b t15 l_hi 1 y6_)))))
def oV (m:Bool) {β:Type} (K:bS→Option β) (k_l6:jv β):Xf β:=fun a b t15 t21 l_hi l b4_0 b4_1 b4_2 b4_3 b4_4 b4_5 b4_6=>(ck (lm (l_hi+List.length ([(b4_0,b4_1,b4_2,(b4_3,b4_4,b4_5,b4_6,()),())]:List ag.den))) (fm m (l_hi+List.length ([(b4_0,b4_1,b4_2,(b4_3,b4_4,b4_5,b4_6,()),())]:List ag.den)) fun y3_=>(fz m aa (w64 (t21+1)) fun y4_=>(fz m (.slice ag) (List.take l_hi l++[(b4_0,b4_1,b4_2,(b4_3,b4_4,b4_5,b4_6,()),())]) fun y5_=>(k_l6 a b t15 y3_ y4_ y5_)))))
def K2 (m:Bool) {β:Type} (K:bS→Option β) (k_l6:jv β) (k_l3:gR β):jv β:=fun a b t15 l_hi t21 l=>(bif (decide (t21<(il (ix (.slice ag) [a,b] t15)))) then (ck (bd t21 (ix (.slice ag) [a,b] t15).length) (ck (decide (0≤(il ((ix ag (ix (.slice ag) [a,b] t15) t21).2.2.1)))&&decide ((il ((ix ag (ix (.slice ag) [a,b] t15) t21).2.2.1))≤(il ((ix ag (ix (.slice ag) [a,b] t15) t21).2.2.1)))&&decide ((il ((ix ag (ix (.slice ag) [a,b] t15) t21).2.2.1))≤(LIM:Int))) (fz m aa ((ix ag (ix (.slice ag) [a,b] t15) t21).1) fun y6_=>(fz m aa ((ix ag (ix (.slice ag) [a,b] t15) t21).2.1) fun y7_=>(fz m (.slice ap) ((List.take (Int.toNat (il ((ix ag (ix (.slice ag) [a,b] t15) t21).2.2.1))) (List.take 0 (List.replicate (Int.toNat (il ((ix ag (ix (.slice ag) [a,b] t15) t21).2.2.1))) (zero ap))++List.take (Nat.min (List.length (ix ag (ix (.slice ag) [a,b] t15) t21).2.2.1) (Int.toNat (il ((ix ag (ix (.slice ag) [a,b] t15) t21).2.2.1)))) (ix ag (ix (.slice ag) [a,b] t15) t21).2.2.1++List.drop (0+(Nat.min (List.length (ix ag (ix (.slice ag) [a,b] t15) t21).2.2.1) (Int.toNat (il ((ix ag (ix (.slice ag) [a,b] t15) t21).2.2.1))))) (List.replicate (Int.toNat (il ((ix ag (ix (.slice ag) [a,b] t15) t21).2.2.1))) (zero ap)))).drop 0) fun y8_=>(fz m aa ((ix ag (ix (.slice ag) [a,b] t15) t21).2.2.2.1.1) fun y9_=>(fz m .bool ((ix ag (ix (.slice ag) [a,b] t15) t21).2.2.2.1.2.1) fun y10_=>(fz m .str ((ix ag (ix (.slice ag) [a,b] t15) t21).2.2.2.1.2.2.1) fun y11_=>(fz m aa ((ix ag (ix (.slice ag) [a,b] t15) t21).2.2.2.1.2.2.2.1) fun y12_=>(oV m K k_l6 a b t15 t21 l_hi l y6_ y7_ y8_ y9_ y10_ y11_ y12_)))))))))) else (fz m aa (w64 (t15+1)) fun y3_=>(k_l3 a b l_hi y3_ l)))
def rT (m:Bool) {β:Type} (K:bS→Option β) (k_f97_l9:fd β) (k_f97_l4:cN β):cN β:=fun l_hi a b t15 s_hi t5 s=>(bif (decide (t5<(ni s_hi))) then (ck (decide (0≤t5)&&decide (t5<(ni s_hi))) (ck (decide (0≤(w64 (t5-1)))&&decide ((w64 (t5-1))<(ni s_hi))) (cl m .bool (sD (List.getD s (0+Int.toNat t5) (zero ag)) (List.getD s (0+Int.toNat (w64 (t5-1))) (zero ag))) fun r1=>(bif r1 then (ck (decide (0≤t5)&&decide (t5≤(ni s_hi))) (fm m (0+(Int.toNat t5)) fun y6_=>(fm m (0+s_hi) fun y7_=>(k_f97_l9 l_hi a b t15 s_hi t5 y6_ y7_ 1 s)))) else (fz m aa (w64 (t5+1)) fun y5_=>(k_f97_l4 l_hi a b t15 s_hi y5_ s)))))) else (K ((List.take s_hi s).drop 0)))
def dS (m:Bool) {β:Type} (K:bS→Option β) (k_f97_l9:fd β):Fu β:=fun k2 l_hi a b t15 s_hi t5 s2_lo s2_hi s=>(fz m aa (w64 (k2+1)) fun y8_=>(k_f97_l9 l_hi a b t15 s_hi t5 s2_lo s2_hi y8_ s))
def rS (m:Bool) {β:Type} (K:bS→Option β) (k_f97_l9:fd β):fd β:=fun l_hi a b t15 s_hi t5 s2_lo s2_hi k2 s=>(bif (decide (k2<(ni (s2_hi-s2_lo)))) then (ck (decide (0≤k2)&&decide (k2<(ni (s2_hi-s2_lo)))) (ck (decide (0≤(w64 (k2-1)))&&decide ((w64 (k2-1))<(ni (s2_hi-s2_lo)))) (cl m .bool (sD (List.getD s (s2_lo+Int.toNat k2) (zero ag)) (List.getD s (s2_lo+Int.toNat (w64 (k2-1))) (zero ag))) fun r2=>(bif (!r2) then (ck (decide (0≤k2)&&decide (k2<(ni (s2_hi-s2_lo)))) (ck (decide (0≤t5)&&decide (t5<(ni s_hi))) (fz m aa (w64 (t5+1)) fun y6_=>(fz m (.slice ag) (List.set s (0+Int.toNat t5) (List.getD s (s2_lo+Int.toNat k2) (zero ag))) fun y9_=>(dS m K k_f97_l9 k2 l_hi a b t15 s_hi y6_ s2_lo s2_hi y9_))))) else (dS m K k_f97_l9 k2 l_hi a b t15 s_hi t5 s2_lo s2_hi s))))) else (ck (decide (0≤t5)&&decide (t5≤(ni s_hi))) (ck (decide (0≤t5)&&decide (t5≤(ni s_hi))) (K ((List.take (0+(Int.toNat t5)) (List.take (0+(Int.toNat t5)) s++List.replicate ((0+s_hi)-(0+(Int.toNat t5))) (zero ag)++List.drop (0+s_hi) s)).drop 0)))))
def SM (m:Bool) {β:Type} (K:bS→Option β) (k_l3:gR β) (a:(List ag.den)) (b:(List ag.den)):Option β:=(k_l3 a b 0 0 [])
def rP (k_l3:gR bS):Nat→jv bS:=lp (fun _ _ _ _ _ _=>none) fun k_l6=>K2 false some k_l6 k_l3
def x7 (k_f97_l4:cN bS):Nat→fd bS:=lp (fun _ _ _ _ _ _ _ _ _ _=>none) fun k_f97_l9=>rS false some k_f97_l9
def gT:Nat→cN bS:=lp (fun _ _ _ _ _ _ _=>none) fun k_f97_l4=>rT false some (x7 k_f97_l4 FU) k_f97_l4
def rR:Nat→gR bS:=lp (fun _ _ _ _ _=>none) fun k_l3=>qf false some (rP k_l3 FU) (gT FU)
def tP (a:(List ag.den)) (b:(List ag.den)):Option bS:=SM false some (rR FU) a b
def c9 (r:bS):AV := .val (.slice ag) r
def acE:Ent:=evE (.cons (.slice ag) (.cons (.slice ag) .unit)) c9 (zero (.slice ag)) (fun x=>tP x.1 x.2.1)
def EO:MS:=⟨0,[],[(5,.mut ag 91),(13,.dat (.slice (.slice ag))),(14,.dat aa),(15,.dat aa)]⟩
def OW:MS:=⟨0,[],[(5,.mut ag 91),(13,.dat (.slice (.slice ag))),(14,.dat aa),(15,.dat aa),(19,.dat (.slice ag)),(20,.dat aa),(21,.dat aa)]⟩
def Xg:MS:=⟨5,[(4,[.dat aa,.dat aa,.dat (.slice ap),.dat aa,.dat .bool,.dat .str,.dat aa])],[(5,.mut ag 91),(9,.keep),(13,.dat (.slice (.slice ag))),(14,.dat aa),(15,.dat aa),(19,.dat (.slice ag)),(20,.dat aa),(21,.dat aa)]⟩
def K7:Par:=⟨ux.tab,(ay []),(fun _=>ao [(11,Xg)]),(fun _=>ao [(3,EO),(6,OW)])⟩
def mc:MS:=⟨7,[],[(0,.mut ag 91),(1,.keep),(5,.dat aa)]⟩
def mb:MS:=⟨7,[],[(0,.mut ag 91),(1,.keep),(5,.dat aa),(6,.mut ag 91),(7,.dat aa)]⟩
def EP:Par:=⟨ux.tab,(ay [(98,Mj)]),(fun lo r=>ao [(7010,mb)] (lo * 1000+r)),(fun lo r=>ao [(7004,mc),(7009,mb)] (lo * 1000+r))⟩
def SN:Fi:=j4 Tryz.f97 EP
def x6:FuncId→Option Fi:=ao [(97,SN)]
def BH:Hs:=Zb [(95,Pw)]
def K8:KT:=bc ux.tab [.tmp 4] [(.slice ag)]
def rU (fuel lo:Nat) (p:List Nat):Sg→KT→Option AV:=xc (aD x6 BH fuel 2) K7 lo fuel (sub ((Tryz.f46.body).getD .skip) p)
def fP (fuel lo:Nat) (p:List Nat):Sg→KT→Option AV:=xc (aD x6 BH fuel 1) EP lo fuel (sub ((Tryz.f97.body).getD .skip) p)
def rQ (fuel n:Nat):gR AV:=fun a b l_hi t15 l=>aB 0 EO (rU fuel 0 [1,1,0,1,0,0]) (ai 0 (aw 0 none (rU fuel 0 [1,1,1]) K8)) n ⟨mkE 45 [(5,.msl 0 0 0 l_hi),(13,.val (.slice (.slice ag)) [a,b]),(14,.val aa (il ([a,b]:List (List ag.den)))),(15,.val aa t15)],mkH 1 [(0,.mrow ag 91 0 l)]⟩
def x5 (fuel n3 n:Nat):jv AV:=fun a b t15 l_hi t21 l=>aB 0 OW (rU fuel 0 [1,1,0,1,0,0,1,1,0,0,1,1,0,0]) (ai 2 (ai 1 (aw 0 none (rU fuel 0 [1,1,0,1,0,0,1,1,1]) (kLp 0 EO (rU fuel 0 [1,1,0,1,0,0]) (ai 0 (aw 0 none (rU fuel 0 [1,1,1]) K8)) n3)))) n ⟨mkE 45 [(5,.msl 0 0 0 l_hi),(13,.val (.slice (.slice ag)) [a,b]),(14,.val aa (il ([a,b]:List (List ag.den)))),(15,.val aa t15),(19,.val (.slice ag) (ix (.slice ag) [a,b] t15)),(20,.val aa (il (ix (.slice ag) [a,b] t15))),(21,.val aa t21)],mkH 1 [(0,.mrow ag 91 0 l)]⟩
def gS (fuel n:Nat):cN AV:=fun l_hi a b t15 s_hi t5 s=>aB 7 mc (fP fuel 7 [1,1,0,1,0,0]) (ai 0 (aw 7 none (fP fuel 7 [1,1,1]) (vV ux.tab [.tmp 4] (fun res heap'=>dq ux.tab K7.T (aD x6 BH fuel 2) (fe (sub ((Tryz.f46.body).getD .skip) [1,1,1,1,0])) 4 2 (List.drop 2 (fe (sub ((Tryz.f46.body).getD .skip) [1,1,1,1,0]))) ⟨gV (mkE 45 [(5,.msl 0 0 0 l_hi),(13,.val (.slice (.slice ag)) [a,b]),(14,.val aa (il ([a,b]:List (List ag.den)))),(15,.val aa t15),(16,.val .bool (decide (t15<(il ([a,b]:List (List ag.den)))))),(41,.msl 0 0 0 l_hi),(42,.tup (br [])),(43,.msl 0 0 0 l_hi)]) (some 44) res,heap'⟩ (wT ((aw 0 none (rU fuel 0 [1,1,1,1,1]) K8) .normal)))))) n ⟨mkE 66 [(0,.msl 7 0 0 s_hi),(1,.fn 98 (br [])),(5,.val aa t5)],mkH 8 [(0,.dead),(7,.mrow ag 91 0 s)]⟩
def j9 (fuel n97_4 n:Nat):fd AV:=fun l_hi a b t15 s_hi t5 s2_lo s2_hi k2 s=>aB 7 mb (fP fuel 7 [1,1,0,1,0,0,1,0,0,1,0,1,0,1,0,0]) (ai 2 (aw 7 none (fP fuel 7 [1,1,0,1,0,0,1,0,0,1,0,1,1]) (ai 1 (aw 7 none (fP fuel 7 [1,1,0,1,0,0,1,1]) (kLp 7 mc (fP fuel 7 [1,1,0,1,0,0]) (ai 0 (aw 7 none (fP fuel 7 [1,1,1]) (vV ux.tab [.tmp 4] (fun res heap'=>dq ux.tab K7.T (aD x6 BH fuel 2) (fe (sub ((Tryz.f46.body).getD .skip) [1,1,1,1,0])) 4 2 (List.drop 2 (fe (sub ((Tryz.f46.body).getD .skip) [1,1,1,1,0]))) ⟨gV (mkE 45 [(5,.msl 0 0 0 l_hi),(13,.val (.slice (.slice ag)) [a,b]),(14,.val aa (il ([a,b]:List (List ag.den)))),(15,.val aa t15),(16,.val .bool (decide (t15<(il ([a,b]:List (List ag.den)))))),(41,.msl 0 0 0 l_hi),(42,.tup (br [])),(43,.msl 0 0 0 l_hi)]) (some 44) res,heap'⟩ (wT ((aw 0 none (rU fuel 0 [1,1,1,1,1]) K8) .normal)))))) n97_4))))) n ⟨mkE 66 [(0,.msl 7 0 0 s_hi),(1,.fn 98 (br [])),(5,.val aa t5),(6,.msl 7 0 s2_lo s2_hi),(7,.val aa k2)],mkH 8 [(0,.dead),(7,.mrow ag 91 0 s)]⟩
theorem acC (fuel n3:Nat):rQ fuel (n3+1)=qf true (sm c9) (x5 fuel n3 fuel) (gS fuel fuel):=by kernel_rfl
theorem acA (fuel n3 n6:Nat):x5 fuel n3 (n6+1)=K2 true (sm c9) (x5 fuel n3 n6) (rQ fuel n3):=by kernel_rfl
theorem K5 (fuel n97_4:Nat):gS fuel (n97_4+1)=rT true (sm c9) (j9 fuel n97_4 fuel) (gS fuel n97_4):=by kernel_rfl
theorem K3 (fuel n97_4 n97_9:Nat):j9 fuel n97_4 (n97_9+1)=rS true (sm c9) (j9 fuel n97_4 n97_9):=by kernel_rfl
theorem acB (n3:Nat) {k_l3:gR bS} (h_l3:rQ FU n3=mp5 c9 k_l3) : ∀ n,x5 FU n3 n=mp6 c9 (rP k_l3 n):=bo (by kernel_rfl) fun n6 _ h=>(acA FU n3 n6).trans (by rw [h,h_l3]; funext _ _ _ _ _ _; simp only [K2,dS,oV,ss])
theorem K4 (n97_4:Nat) {k_f97_l4:cN bS} (h_f97_l4:gS FU n97_4=mp7 c9 k_f97_l4) : ∀ n,j9 FU n97_4 n=wA c9 (x7 k_f97_l4 n):=bo (by kernel_rfl) fun n97_9 _ h=>(K3 FU n97_4 n97_9).trans (by rw [h]; funext _ _ _ _ _ _ _ _ _ _; simp only [rS,dS,oV,ss])
theorem K6 : ∀ n,gS FU n=mp7 c9 (gT n):=bo (by kernel_rfl) fun n97_4 _ h=>(K5 FU n97_4).trans (by rw [K4 n97_4 h FU,h]; funext _ _ _ _ _ _ _; simp only [rT,dS,oV,ss])
theorem acD : ∀ n,rQ FU n=mp5 c9 (rR n):=bo (by kernel_rfl) fun n3 _ h=>(acC FU n3).trans (by rw [acB n3 h FU,K6 FU]; funext _ _ _ _ _; simp only [qf,dS,oV,ss])
theorem ajQ:ar Tryz.prog 46 (acE):=agH follows (lk ⟨dh Tryz.func97 (by kernel_rfl) pg (ah ⟨X7,trivial⟩),trivial⟩) (IX (l:=[(95,Pw)]) ⟨agV,trivial⟩) (fi:=x6) (d:=2) Tryz.func46 (S:=K7) pg (ah trivial) (tys:=[(.slice ag)]) (fun fuel x=>SM true (sm c9) (rQ fuel fuel) x.1 x.2.1) (fun x=>by show _=Option.map c9 _; rw [acD FU]; simp only [SM,tP,dS,oV,ss])
abbrev kt (β:Type):=(List ap.den)→(List ag.den)→aG.den→Bool→Int→Int→Bool→Str→Int→Option β
abbrev Sf (β:Type):=(List ap.den)→(List ag.den)→Int→aG.den→Bool→Int→Bool→Str→Int→Option β
def tB (m:Bool) {β:Type} (K:b8→Option β) (k_l7:kt β):Sf β:=fun r1 l t20 r found b10_0 b10_1 b10_2 b10_3=>(fz m aa (w64 (t20+1)) fun y4_=>(k_l7 r1 l r found y4_ b10_0 b10_1 b10_2 b10_3))
def alE (x0:(List ap.den)) (x1:(List ap.den)):Bool:=(Bz x0 x1).isSome
def alF (x0:(List ap.den)) (x1:(List ap.den)):Bool:=(Bz x0 x1).getD (zero .bool)
def Eg (m:Bool) {β:Type} (K:b8→Option β) (k_l7:kt β):kt β:=fun r1 l r found t20 b10_0 b10_1 b10_2 b10_3=>(bif (decide (t20<(il l))) then (ck (bd t20 l.length) (nq m [2,2,3,0] (!(!decide ((ix ag l t20).1=r.2.1))) (nq m [2] (!(bif (!decide ((ix ag l t20).1=r.2.1)) then true else (!decide ((ix ag l t20).2.1=r.2.2.1)))) (nm m 2 (!(bif (!decide ((ix ag l t20).1=r.2.1)) then true else (!decide ((ix ag l t20).2.1=r.2.2.1)))) (alE ((ix ag l t20).2.2.1) r1) (nq m [2,0] (!(bif (!decide ((ix ag l t20).1=r.2.1)) then true else (!decide ((ix ag l t20).2.1=r.2.2.1)))) (bif (bif (bif (!decide ((ix ag l t20).1=r.2.1)) then true else (!decide ((ix ag l t20).2.1=r.2.2.1))) then true else (!(alF ((ix ag l t20).2.2.1) r1))) then (tB m K k_l7 r1 l t20 r found b10_0 b10_1 b10_2 b10_3) else (nq m [2,3,1] found (bif (bif found then (!eqD ap (ix ag l t20).2.2.2.1 (b10_0,b10_1,b10_2,b10_3,())) else false) then (K ((0,false,[],0,()),false,())) else (fz m aa ((ix ag l t20).2.2.2.1.1) fun y5_=>(fz m .bool ((ix ag l t20).2.2.2.1.2.1) fun y6_=>(fz m .str ((ix ag l t20).2.2.2.1.2.2.1) fun y7_=>(fz m aa ((ix ag l t20).2.2.2.1.2.2.2.1) fun y8_=>(tB m K k_l7 r1 l t20 r true y5_ y6_ y7_ y8_))))))))))))) else (K ((b10_0,b10_1,b10_2,b10_3,()),found,())))
def Ks (m:Bool) {β:Type} (K:b8→Option β) (k_l7:kt β) (l:(List ag.den)) (r:aG.den):Option β:=(bif (!decide (r.1=1)) then (K ((0,false,[],0,()),false,())) else (ce m (.slice ap) (md (r.2.2.2.1)) (b6 (r.2.2.2.1)) fun r1=>(k_l7 r1 l r false 0 0 false [] 0)))
def GY:Nat→kt b8:=lp (fun _ _ _ _ _ _ _ _ _=>none) fun k_l7=>Eg false some k_l7
def xz (l:(List ag.den)) (r:aG.den):Option b8:=Ks false some (GY FU) l r
def Ui:Ent:=evE (.cons (.slice ag) (.cons aG .unit)) bY (zero (.cons ap (.cons .bool .unit))) (fun x=>xz x.1 x.2.1)
def yW:MS:=⟨11,[(0,[.dat aa,.dat aa,.dat aa,.dat (.slice aK),.dat (.slice aa)]),(1,[.dat aa,.dat .bool,.dat .str,.dat aa]),(10,[.dat aa,.dat .bool,.dat .str,.dat aa])],[(3,.keep),(4,.keep),(6,.dat (.slice ap)),(7,.keep),(8,.dat .bool),(18,.dat (.slice ag)),(19,.dat aa),(20,.dat aa)]⟩
def Uj:Par:=⟨ux.tab,(ay [(40,sf),(92,abG)]),(fun _=>ao [(13,yW)]),(fun _=>ao [(7,yW)])⟩
def afv:KT:=bc ux.tab [.cell 4 51,.tmp 5] [ap,.bool]
def Uk (fuel lo:Nat) (p:List Nat):Sg→KT→Option AV:=xc (aD fi0 hs0 fuel 0) Uj lo fuel (sub ((Tryz.f44.body).getD .skip) p)
def tA (fuel n:Nat):kt AV:=fun r1 l r found t20 b10_0 b10_1 b10_2 b10_3=>aB 0 yW (Uk fuel 0 [1,1,1,1,1,0,1,0,0]) (ai 0 (aw 0 none (Uk fuel 0 [1,1,1,1,1,1]) afv)) n ⟨mkE 56 [(3,.box 0 0),(4,.box 1 0),(6,.val (.slice ap) r1),(7,.box 10 0),(8,.val .bool found),(18,.val (.slice ag) l),(19,.val aa (il l)),(20,.val aa t20)],mkH 11 [(0,.box [.val aa r.1,.val aa r.2.1,.val aa r.2.2.1,.val (.slice aK) r.2.2.2.1,.val (.slice aa) r.2.2.2.2.1]),(1,.box [.val aa (0:Int),.val .bool false,.val .str [],.val aa (0:Int)]),(10,.box [.val aa b10_0,.val .bool b10_1,.val .str b10_2,.val aa b10_3])]⟩
theorem WL (fuel n7:Nat):tA fuel (n7+1)=Eg true (sm bY) (tA fuel n7):=by kernel_rfl
theorem WM : ∀ n,tA FU n=mp9 bY (GY n):=bo (by kernel_rfl) fun n7 _ h=>(WL FU n7).trans (by rw [h]; funext _ _ _ _ _ _ _ _ _; simp only [Eg,tB,ss])
theorem afu:ar Tryz.prog 44 (Ui):=evX Tryz.func44 (S:=Uj) pg (ah ⟨FC,ajt,trivial⟩) (tys:=[ap,.bool]) (fun fuel x=>Ks true (sm bY) (tA fuel fuel) x.1 x.2.1) (fun x=>by show _=Option.map bY _; rw [WM FU]; simp only [Ks,xz,tB,ss])
abbrev kX (β:Type):=(List ag.den)→(List ag.den)→Int→Option β
def n0 (m:Bool) {β:Type} (K:Bool→Option β) (k_l4:kX β):kX β:=fun a b i=>(bif (decide (i<(il a))) then (ck (bd i a.length) (ck (bd i b.length) (ce m aa (B2 (ix ag a i) (ix ag b i)) (gW (ix ag a i) (ix ag b i)) fun r1=>(bif (!decide (r1=0)) then (K false) else (fz m aa (w64 (i+1)) fun y2_=>(k_l4 a b y2_)))))) else (K true))
def vU (m:Bool) {β:Type} (K:Bool→Option β) (k_l4:kX β) (a:(List ag.den)) (b:(List ag.den)):Option β:=(bif (!decide ((il a)=(il b))) then (K false) else (k_l4 a b 0))
def pq:Nat→kX Bool:=lp (fun _ _ _=>none) fun k_l4=>n0 false some k_l4
def kc (a:(List ag.den)) (b:(List ag.den)):Option Bool:=vU false some (pq FU) a b
def Mg:Ent:=evE (.cons (.slice ag) (.cons (.slice ag) .unit)) af (zero .bool) (fun x=>kc x.1 x.2.1)
def Cm:MS:=⟨0,[],[(0,.dat (.slice ag)),(1,.dat (.slice ag)),(5,.dat aa)]⟩
def Mh:Par:=⟨ux.tab,(ay [(38,Ho)]),(fun _=>ao []),(fun _=>ao [(4,Cm)])⟩
def Mi (fuel lo:Nat) (p:List Nat):Sg→KT→Option AV:=xc (aD fi0 hs0 fuel 0) Mh lo fuel (sub ((Tryz.f18.body).getD .skip) p)
def pp (fuel n:Nat):kX AV:=fun a b i=>aB 0 Cm (Mi fuel 0 [1,1,0,1,0,0]) (ai 0 (aw 0 none (Mi fuel 0 [1,1,1]) abI)) n ⟨mkE 27 [(0,.val (.slice ag) a),(1,.val (.slice ag) b),(5,.val aa i)],mkH 0 []⟩
theorem PQ (fuel n4:Nat):pp fuel (n4+1)=n0 true (sm af) (pp fuel n4):=by kernel_rfl
theorem PR : ∀ n,pp FU n=mp3 af (pq n):=bo (by kernel_rfl) fun n4 _ h=>(PQ FU n4).trans (by rw [h]; funext _ _ _; simp only [n0,ss])
theorem X6:ar Tryz.prog 18 (Mg):=evX Tryz.func18 (S:=Mh) pg (ah ⟨acL,trivial⟩) (tys:=[.bool]) (fun fuel x=>vU true (sm af) (pp fuel fuel) x.1 x.2.1) (fun x=>by show _=Option.map af _; rw [PR FU]; simp only [vU,kc,ss])
def agK (x0:(List ag.den)) (x1:(List ag.den)):Bool:=(tP x0 x1).isSome
def agL (x0:(List ag.den)) (x1:(List ag.den)):(List ag.den):=(tP x0 x1).getD (zero (.slice ag))
def tK (m:Bool) {β:Type} (K:Bool→Option β):Option β:=(cl m (.cons ap (.cons .bool .unit)) (xz [(1048577,3,[(0,false,[103],0,()),(0,false,[104],0,())],(0,false,[103],0,()),())] (1,1048577,3,[(1048581,(0,false,[104],0,()),()),(1048582,(0,false,[103],0,()),())],[],())) fun r1=>(cl m (.cons ap (.cons .bool .unit)) (xz [(1048577,3,[(0,false,[103],0,()),(0,false,[104],0,())],(0,false,[103],0,()),()),(1048577,3,[(0,false,[103],0,()),(0,false,[104],0,())],(0,false,[104],0,()),())] (1,1048577,3,[(1048581,(0,false,[104],0,()),()),(1048582,(0,false,[103],0,()),())],[],())) fun r2=>(nq m [3,1] (r1.2.1) (nq m [2,1] (bif r1.2.1 then (eqD ap r1.1 (0,false,[103],0,())) else false) (nq m [3,2,1] (bif (bif r1.2.1 then (eqD ap r1.1 (0,false,[103],0,())) else false) then (!r2.2.1) else false) (nq m [3,2,1] (bif (bif (bif r1.2.1 then (eqD ap r1.1 (0,false,[103],0,())) else false) then (!r2.2.1) else false) then (decide ((bt (0,false,[103],0,()) (0,false,[104],0,()))=(-1))) else false) (nq m [1] (bif (bif (bif (bif r1.2.1 then (eqD ap r1.1 (0,false,[103],0,())) else false) then (!r2.2.1) else false) then (decide ((bt (0,false,[103],0,()) (0,false,[104],0,()))=(-1))) else false) then (decide ((bt (0,false,[104],0,()) (0,false,[103],0,()))=1)) else false) (ck ((ii (bif (bif (bif (bif r1.2.1 then (eqD ap r1.1 (0,false,[103],0,())) else false) then (!r2.2.1) else false) then (decide ((bt (0,false,[103],0,()) (0,false,[104],0,()))=(-1))) else false) then (decide ((bt (0,false,[104],0,()) (0,false,[103],0,()))=1)) else false))&&((ii (bif (bif (bif (bif r1.2.1 then (eqD ap r1.1 (0,false,[103],0,())) else false) then (!r2.2.1) else false) then (decide ((bt (0,false,[103],0,()) (0,false,[104],0,()))=(-1))) else false) then (decide ((bt (0,false,[104],0,()) (0,false,[103],0,()))=1)) else false))&&true)) (nm m 2 (bif (bif (bif (bif r1.2.1 then (eqD ap r1.1 (0,false,[103],0,())) else false) then (!r2.2.1) else false) then (decide ((bt (0,false,[103],0,()) (0,false,[104],0,()))=(-1))) else false) then (decide ((bt (0,false,[104],0,()) (0,false,[103],0,()))=1)) else false) (agK [(1048577,3,[(0,false,[103],0,()),(0,false,[104],0,())],(0,false,[103],0,()),())] [(1048577,3,[(0,false,[103],0,()),(0,false,[104],0,())],(0,false,[104],0,()),()),(1048577,3,[(0,false,[103],0,()),(0,false,[104],0,())],(0,false,[103],0,()),())]) (nq m [2,2,1] (bif (bif (bif (bif r1.2.1 then (eqD ap r1.1 (0,false,[103],0,())) else false) then (!r2.2.1) else false) then (decide ((bt (0,false,[103],0,()) (0,false,[104],0,()))=(-1))) else false) then (decide ((bt (0,false,[104],0,()) (0,false,[103],0,()))=1)) else false) (K (bif (bif (bif (bif (bif r1.2.1 then (eqD ap r1.1 (0,false,[103],0,())) else false) then (!r2.2.1) else false) then (decide ((bt (0,false,[103],0,()) (0,false,[104],0,()))=(-1))) else false) then (decide ((bt (0,false,[104],0,()) (0,false,[103],0,()))=1)) else false) then (decide ((il (agL [(1048577,3,[(0,false,[103],0,()),(0,false,[104],0,())],(0,false,[103],0,()),())] [(1048577,3,[(0,false,[103],0,()),(0,false,[104],0,())],(0,false,[104],0,()),()),(1048577,3,[(0,false,[103],0,()),(0,false,[104],0,())],(0,false,[103],0,()),())]))=2)) else false))))))))))))
def io:Option Bool:=tK false some
def Hj:Ent:=evE .unit af (zero .bool) (fun _=>io)
def W8:Par:=⟨ux.tab,(ay [(44,Ui),(45,uE),(46,acE)]),(fun _=>ao []),(fun _=>ao [])⟩
theorem W7:ar Tryz.prog 21 (Hj):=evX Tryz.func21 (S:=W8) pg (ah ⟨afu,Il,ajQ,trivial⟩) (tys:=[.bool]) (fun fuel _=>tK true (sm af)) (fun _=>by show _=Option.map af _; simp only [tK,io,ss])
end
end Go.Proofs.YtboikinjlmjgjaaGreat.Abs
