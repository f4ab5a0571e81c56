/- Every function's contract, one after the other. (Printed by chain.py.) -/
import Derived.Shelf.SlSortCmp.WholeK
import Derived.Shelf.SlSortCmp.NoneTotal
import Derived.Test.YtboikinjlmjgjaaGreatProg
import Derived.Test.YtboikinjlmjgjaaGreatMeetW5
import Derived.Test.YtboikinjlmjgjaaGreatAbsX
namespace Go.Proofs
open Go.Shelf
def Tryz.laysS_ren:Go.Shelf.Ren:=⟨fun | 6=>77 | 15=>115 | 14=>114 | 28=>146 | 29=>147 | 20=>138 | 21=>139 | 22=>140 | 23=>141 | 24=>142 | 25=>143 | 26=>144 | 27=>145 | 46=>183 | 47=>184 | 48=>185 | 49=>186 | 50=>187 | 57=>211 | n=>n,fun | 22=>78 | 24=>83 | 25=>133 | 3=>3 | 39=>119 | 0=>0 | 53=>199 | 55=>201 | 4=>4 | 46=>192 | 45=>191 | 50=>196 | 5=>5 | 9=>9 | 66=>228 | 70=>232 | 76=>245 | 77=>109 | n=>n,fun | n=>n⟩
theorem Tryz.laysS:Go.Proofs.SlLaysF0.n6 Tryz.prog Tryz.laysS_ren:={
 mixed:=by kernel_rfl
 f6:=⟨Tryz.f77.name,by decide,Tryz.func77.trans (congrArg some (by kernel_rfl))⟩
 f14:=⟨Tryz.f114.name,by decide,Tryz.func114.trans (congrArg some (by kernel_rfl))⟩
 f15:=Tryz.func115.trans (congrArg some (by kernel_rfl))
 f20:=⟨Tryz.f138.name,by decide,Tryz.func138.trans (congrArg some (by kernel_rfl))⟩
 f21:=⟨Tryz.f139.name,by decide,Tryz.func139.trans (congrArg some (by kernel_rfl))⟩
 f22:=⟨Tryz.f140.name,by decide,Tryz.func140.trans (congrArg some (by kernel_rfl))⟩
 f23:=⟨Tryz.f141.name,by decide,Tryz.func141.trans (congrArg some (by kernel_rfl))⟩
 f24:=⟨Tryz.f142.name,by decide,Tryz.func142.trans (congrArg some (by kernel_rfl))⟩
 f25:=⟨Tryz.f143.name,by decide,Tryz.func143.trans (congrArg some (by kernel_rfl))⟩
 f26:=⟨Tryz.f144.name,by decide,Tryz.func144.trans (congrArg some (by kernel_rfl))⟩
 f27:=⟨Tryz.f145.name,by decide,Tryz.func145.trans (congrArg some (by kernel_rfl))⟩
 f28:=Tryz.func146.trans (congrArg some (by kernel_rfl))
 f29:=Tryz.func147.trans (congrArg some (by kernel_rfl))
 f46:=⟨Tryz.f183.name,by decide,Tryz.func183.trans (congrArg some (by kernel_rfl))⟩
 f47:=Tryz.func184.trans (congrArg some (by kernel_rfl))
 f48:=Tryz.func185.trans (congrArg some (by kernel_rfl))
 f49:=⟨Tryz.f186.name,by decide,Tryz.func186.trans (congrArg some (by kernel_rfl))⟩
 f50:=⟨Tryz.f187.name,by decide,Tryz.func187.trans (congrArg some (by kernel_rfl))⟩
 f57:=⟨Tryz.f211.name,by decide,Tryz.func211.trans (congrArg some (by kernel_rfl))⟩
 t0:=Tryz.underlying0
 a0:=Tryz.isAgg0
 z0:=Tryz.sizeOf0
 v0:=Tryz.zeroValue0
 t3:=Tryz.underlying3
 a3:=Tryz.isAgg3
 z3:=Tryz.sizeOf3
 v3:=Tryz.zeroValue3
 t4:=Tryz.underlying4
 a4:=Tryz.isAgg4
 z4:=Tryz.sizeOf4
 v4:=Tryz.zeroValue4
 t5:=Tryz.underlying5
 a5:=Tryz.isAgg5
 z5:=Tryz.sizeOf5
 v5:=Tryz.zeroValue5
 t9:=Tryz.underlying9
 a9:=Tryz.isAgg9
 z9:=Tryz.sizeOf9
 v9:=Tryz.zeroValue9
 t22:=Tryz.underlying78
 a22:=Tryz.isAgg78
 z22:=Tryz.sizeOf78
 v22:=Tryz.zeroValue78
 t25:=Tryz.underlying133
 a25:=Tryz.isAgg133
 z25:=Tryz.sizeOf133
 v25:=Tryz.zeroValue133
 t39:=Tryz.underlying119
 a39:=Tryz.isAgg119
 z39:=Tryz.sizeOf119
 v39:=Tryz.zeroValue119
 t45:=Tryz.underlying191
 a45:=Tryz.isAgg191
 z45:=Tryz.sizeOf191
 v45:=Tryz.zeroValue191
 t46:=Tryz.underlying192
 a46:=Tryz.isAgg192
 z46:=Tryz.sizeOf192
 v46:=Tryz.zeroValue192
 t50:=Tryz.underlying196
 a50:=Tryz.isAgg196
 z50:=Tryz.sizeOf196
 v50:=Tryz.zeroValue196
 t53:=Tryz.underlying199
 a53:=Tryz.isAgg199
 z53:=Tryz.sizeOf199
 v53:=Tryz.zeroValue199
 t55:=Tryz.underlying201
 a55:=Tryz.isAgg201
 z55:=Tryz.sizeOf201
 v55:=Tryz.zeroValue201
 t66:=Tryz.underlying228
 a66:=Tryz.isAgg228
 z66:=Tryz.sizeOf228
 v66:=Tryz.zeroValue228
 t70:=Tryz.underlying232
 a70:=Tryz.isAgg232
 z70:=Tryz.sizeOf232
 v70:=Tryz.zeroValue232
 t76:=Tryz.underlying245
 a76:=Tryz.isAgg245
 z76:=Tryz.sizeOf245
 v76:=Tryz.zeroValue245
 t77:=Tryz.underlying109
 a77:=Tryz.isAgg109
 z77:=Tryz.sizeOf109
 v77:=Tryz.zeroValue109 }
end Go.Proofs
namespace Go.Proofs.YtboikinjlmjgjaaGreat.Abs
open Go
theorem abY (x y:Stg):BB [.val av x,.val av y]=some (true,.val aa (jB x y)):=by kernel_rfl
theorem agU (hc:ar Tryz.prog 78 BB):zk Tryz.prog 77 Pv :=
 Cg rfl (by kernel_rfl) (by decide) ⟨Tryz.f77,Tryz.func77,by kernel_rfl,by kernel_rfl⟩
  (fun enc hk h1 cf hO g cb blk off cap d w eg hcmp hH hb hs=>AnyQ.slices_SortFunc Tryz.laysS _ Tryz.isAgg83 Tryz.sizeOf83 enc hk h1 cf hO g cb blk off cap d w eg hcmp hH hb hs)
  (fun p cap fv w=>AnyF.slices_SortFunc_none Tryz.laysS p cap fv w) OC
  (fun x y _ _=>jR hc (xs:=[⟨_,x⟩,⟨_,y⟩]) (abY x y))
end Go.Proofs.YtboikinjlmjgjaaGreat.Abs
namespace Go.Proofs.YtboikinjlmjgjaaGreat.Abs
open Go
theorem adT:ar Tryz.prog 80 Bh:=V8 trivial
theorem SE:ar Tryz.prog 35 zd:=ab8 ⟨adT,trivial⟩
theorem Yz:ar Tryz.prog 34 MQ:=adA trivial  Vu
theorem xY:ar Tryz.prog 85 nb:=Xe trivial
theorem YQ:ar Tryz.prog 14 C8:=Qw trivial trivial trivial IK
theorem M6:ar Tryz.prog 61 wD:=Qv trivial  IJ
theorem MN:ar Tryz.prog 116 wn:=Qe ⟨xY,trivial⟩  Ip
theorem KY:ar Tryz.prog 83 BE:=Xb ⟨MN,trivial⟩  OT
theorem agX:ar Tryz.prog 84 PM:=X2 ⟨MN,trivial⟩  PJ
theorem WQ:ar Tryz.prog 30 yZ:=Om trivial  Fr
theorem aca:ar Tryz.prog 31 EB:=SF trivial  KQ
theorem afE:ar Tryz.prog 78 BB:=WW ⟨SE,Yz,trivial⟩  OD
theorem XS:ar Tryz.prog 32 Cb:=Pt trivial ⟨agU afE,trivial⟩ HQ
theorem ag3:ar Tryz.prog 10 P3:=Yd ⟨WQ,aca,YQ,XS,trivial⟩ trivial trivial PY
end Go.Proofs.YtboikinjlmjgjaaGreat.Abs
