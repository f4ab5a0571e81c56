/- Every function's contract, one after the other. (Printed by chain.py.) -/
import Derived.Shelf.SlSortCmp.WholeK
import Derived.Shelf.SlSortCmp.NoneTotal
import Derived.Test.YtboikinjlmjgjaaGreatProg
import Derived.Test.YtboikinjlmjgjaaGreatMeetP3
import Derived.Test.YtboikinjlmjgjaaGreatAbsX
namespace Go.Proofs
open Go.Shelf
def Tryz.laysV_ren:Go.Shelf.Ren:=⟨fun | 6=>88 | 15=>115 | 14=>117 | 28=>146 | 29=>147 | 20=>148 | 21=>149 | 22=>150 | 23=>151 | 24=>152 | 25=>153 | 26=>154 | 27=>155 | 46=>188 | 47=>184 | 48=>185 | 49=>189 | 50=>190 | 57=>212 | n=>n,fun | 22=>89 | 24=>51 | 25=>97 | 3=>3 | 39=>119 | 0=>0 | 53=>199 | 55=>201 | 4=>4 | 46=>192 | 45=>191 | 50=>196 | 5=>5 | 9=>9 | 66=>228 | 70=>232 | 76=>245 | 77=>109 | n=>n,fun | n=>n⟩
theorem Tryz.laysV:Go.Proofs.SlLaysF0.n6 Tryz.prog Tryz.laysV_ren:={
 mixed:=by kernel_rfl
 f6:=⟨Tryz.f88.name,by decide,Tryz.func88.trans (congrArg some (by kernel_rfl))⟩
 f14:=⟨Tryz.f117.name,by decide,Tryz.func117.trans (congrArg some (by kernel_rfl))⟩
 f15:=Tryz.func115.trans (congrArg some (by kernel_rfl))
 f20:=⟨Tryz.f148.name,by decide,Tryz.func148.trans (congrArg some (by kernel_rfl))⟩
 f21:=⟨Tryz.f149.name,by decide,Tryz.func149.trans (congrArg some (by kernel_rfl))⟩
 f22:=⟨Tryz.f150.name,by decide,Tryz.func150.trans (congrArg some (by kernel_rfl))⟩
 f23:=⟨Tryz.f151.name,by decide,Tryz.func151.trans (congrArg some (by kernel_rfl))⟩
 f24:=⟨Tryz.f152.name,by decide,Tryz.func152.trans (congrArg some (by kernel_rfl))⟩
 f25:=⟨Tryz.f153.name,by decide,Tryz.func153.trans (congrArg some (by kernel_rfl))⟩
 f26:=⟨Tryz.f154.name,by decide,Tryz.func154.trans (congrArg some (by kernel_rfl))⟩
 f27:=⟨Tryz.f155.name,by decide,Tryz.func155.trans (congrArg some (by kernel_rfl))⟩
 f28:=Tryz.func146.trans (congrArg some (by kernel_rfl))
 f29:=Tryz.func147.trans (congrArg some (by kernel_rfl))
 f46:=⟨Tryz.f188.name,by decide,Tryz.func188.trans (congrArg some (by kernel_rfl))⟩
 f47:=Tryz.func184.trans (congrArg some (by kernel_rfl))
 f48:=Tryz.func185.trans (congrArg some (by kernel_rfl))
 f49:=⟨Tryz.f189.name,by decide,Tryz.func189.trans (congrArg some (by kernel_rfl))⟩
 f50:=⟨Tryz.f190.name,by decide,Tryz.func190.trans (congrArg some (by kernel_rfl))⟩
 f57:=⟨Tryz.f212.name,by decide,Tryz.func212.trans (congrArg some (by kernel_rfl))⟩
 t0:=Tryz.underlying0
 a0:=Tryz.isAgg0
 z0:=Tryz.sizeOf0
 v0:=Tryz.zeroValue0
 t3:=Tryz.underlying3
 a3:=Tryz.isAgg3
 z3:=Tryz.sizeOf3
 v3:=Tryz.zeroValue3
 t4:=Tryz.underlying4
 a4:=Tryz.isAgg4
 z4:=Tryz.sizeOf4
 v4:=Tryz.zeroValue4
 t5:=Tryz.underlying5
 a5:=Tryz.isAgg5
 z5:=Tryz.sizeOf5
 v5:=Tryz.zeroValue5
 t9:=Tryz.underlying9
 a9:=Tryz.isAgg9
 z9:=Tryz.sizeOf9
 v9:=Tryz.zeroValue9
 t22:=Tryz.underlying89
 a22:=Tryz.isAgg89
 z22:=Tryz.sizeOf89
 v22:=Tryz.zeroValue89
 t25:=Tryz.underlying97
 a25:=Tryz.isAgg97
 z25:=Tryz.sizeOf97
 v25:=Tryz.zeroValue97
 t39:=Tryz.underlying119
 a39:=Tryz.isAgg119
 z39:=Tryz.sizeOf119
 v39:=Tryz.zeroValue119
 t45:=Tryz.underlying191
 a45:=Tryz.isAgg191
 z45:=Tryz.sizeOf191
 v45:=Tryz.zeroValue191
 t46:=Tryz.underlying192
 a46:=Tryz.isAgg192
 z46:=Tryz.sizeOf192
 v46:=Tryz.zeroValue192
 t50:=Tryz.underlying196
 a50:=Tryz.isAgg196
 z50:=Tryz.sizeOf196
 v50:=Tryz.zeroValue196
 t53:=Tryz.underlying199
 a53:=Tryz.isAgg199
 z53:=Tryz.sizeOf199
 v53:=Tryz.zeroValue199
 t55:=Tryz.underlying201
 a55:=Tryz.isAgg201
 z55:=Tryz.sizeOf201
 v55:=Tryz.zeroValue201
 t66:=Tryz.underlying228
 a66:=Tryz.isAgg228
 z66:=Tryz.sizeOf228
 v66:=Tryz.zeroValue228
 t70:=Tryz.underlying232
 a70:=Tryz.isAgg232
 z70:=Tryz.sizeOf232
 v70:=Tryz.zeroValue232
 t76:=Tryz.underlying245
 a76:=Tryz.isAgg245
 z76:=Tryz.sizeOf245
 v76:=Tryz.zeroValue245
 t77:=Tryz.underlying109
 a77:=Tryz.isAgg109
 z77:=Tryz.sizeOf109
 v77:=Tryz.zeroValue109 }
end Go.Proofs
namespace Go.Proofs.YtboikinjlmjgjaaGreat.Abs
open Go
theorem adu (x y:Val):uE [.val ap x,.val ap y]=some (true,.val aa (bt x y)):=by kernel_rfl
theorem agT (hc:ar Tryz.prog 45 uE):zk Tryz.prog 88 Pu :=
 Cg rfl (by kernel_rfl) (by decide) ⟨Tryz.f88,Tryz.func88,by kernel_rfl,by kernel_rfl⟩
  (fun enc hk h1 cf hO g cb blk off cap d w eg hcmp hH hb hs=>AnyQ.slices_SortFunc Tryz.laysV _ Tryz.isAgg51 Tryz.sizeOf51 enc hk h1 cf hO g cb blk off cap d w eg hcmp hH hb hs)
  (fun p cap fv w=>AnyF.slices_SortFunc_none Tryz.laysV p cap fv w) P7
  (fun x y _ _=>jR hc (xs:=[⟨_,x⟩,⟨_,y⟩]) (adu x y))
end Go.Proofs.YtboikinjlmjgjaaGreat.Abs
namespace Go.Proofs.YtboikinjlmjgjaaGreat.Abs
open Go
theorem Y2:ar Tryz.prog 118 wX:=QL trivial
theorem ajv:ar Tryz.prog 94 KM:=ab0 ⟨Y2,trivial⟩
theorem acT:ar Tryz.prog 93 AO:=UT trivial
theorem Il:ar Tryz.prog 45 uE:=Yq ⟨SE,acT,ajv,Yz,trivial⟩  P8
theorem OX:ar Tryz.prog 87 BK:=Xl trivial  OY
theorem afC:ar Tryz.prog 120 KH:=WV ⟨Il,trivial⟩  OB
theorem ab3:ar Tryz.prog 96 KO:=ab4 ⟨SE,afC,Il,Yz,trivial⟩  SC
theorem FC:ar Tryz.prog 40 sf:=Lx trivial trivial ⟨agT Il,trivial⟩ EU
theorem acO:ar Tryz.prog 86 Hr:=UD ⟨OX,trivial⟩  Lc
theorem acL:ar Tryz.prog 38 Ho:=UC ⟨xY,acO,OX,trivial⟩  Lb
theorem aew:ar Tryz.prog 43 JM:=Wo ⟨OX,trivial⟩  NW
end Go.Proofs.YtboikinjlmjgjaaGreat.Abs
