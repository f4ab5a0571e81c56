/- Every function's contract. -/
import Derived.Shelf.SlSortCmp.WholeK
import Derived.Shelf.SlSortCmp.NoneTotal
import Derived.Test.YthfdnklcgfkjoaaGreatDoorProg
import Derived.Test.YthfdnklcgfkjoaaGreatDoorMeetW5
set_option linter.all false
namespace Go.Proofs
open Go.Shelf Tryz
def Tryz.laysS_ren:Go.Shelf.Ren:=⟨λ|6=>96|15=>110|14=>136|28=>148|29=>149|20=>178|21=>179|22=>180|23=>181|24=>182|25=>183|26=>184|27=>185|46=>216|47=>188|48=>189|49=>217|50=>218|57=>257|n=>n,λ|22=>101|24=>106|25=>160|3=>3|39=>150|0=>0|53=>222|55=>224|4=>4|46=>216|45=>215|50=>113|5=>5|9=>9|66=>251|70=>255|76=>286|77=>143|n=>n,λ|n=>n⟩
def Tryz.laysS:Go.Proofs.SlLaysF0.n6 Tryz.prog Tryz.laysS_ren:={
 mixed:=by kernel_rfl
 f6:=⟨Tryz.f96.name,by decide,Tryz.func96.trans (congrArg some (by kernel_rfl))⟩
 f14:=⟨Tryz.f136.name,by decide,Tryz.func136.trans (congrArg some (by kernel_rfl))⟩
 f15:=Tryz.func110.trans (congrArg some (by kernel_rfl))
 f20:=⟨Tryz.f178.name,by decide,Tryz.func178.trans (congrArg some (by kernel_rfl))⟩
 f21:=⟨Tryz.f179.name,by decide,Tryz.func179.trans (congrArg some (by kernel_rfl))⟩
 f22:=⟨Tryz.f180.name,by decide,Tryz.func180.trans (congrArg some (by kernel_rfl))⟩
 f23:=⟨Tryz.f181.name,by decide,Tryz.func181.trans (congrArg some (by kernel_rfl))⟩
 f24:=⟨Tryz.f182.name,by decide,Tryz.func182.trans (congrArg some (by kernel_rfl))⟩
 f25:=⟨Tryz.f183.name,by decide,Tryz.func183.trans (congrArg some (by kernel_rfl))⟩
 f26:=⟨Tryz.f184.name,by decide,Tryz.func184.trans (congrArg some (by kernel_rfl))⟩
 f27:=⟨Tryz.f185.name,by decide,Tryz.func185.trans (congrArg some (by kernel_rfl))⟩
 f28:=Tryz.func148.trans (congrArg some (by kernel_rfl))
 f29:=Tryz.func149.trans (congrArg some (by kernel_rfl))
 f46:=⟨Tryz.f216.name,by decide,Tryz.func216.trans (congrArg some (by kernel_rfl))⟩
 f47:=Tryz.func188.trans (congrArg some (by kernel_rfl))
 f48:=Tryz.func189.trans (congrArg some (by kernel_rfl))
 f49:=⟨Tryz.f217.name,by decide,Tryz.func217.trans (congrArg some (by kernel_rfl))⟩
 f50:=⟨Tryz.f218.name,by decide,Tryz.func218.trans (congrArg some (by kernel_rfl))⟩
 f57:=⟨Tryz.f257.name,by decide,Tryz.func257.trans (congrArg some (by kernel_rfl))⟩
 t0:=Tryz.underlying0
 a0:=Tryz.isAgg0
 z0:=Tryz.sizeOf0
 v0:=Tryz.zeroValue0
 t3:=Tryz.underlying3
 a3:=Tryz.isAgg3
 z3:=Tryz.sizeOf3
 v3:=Tryz.zeroValue3
 t4:=Tryz.underlying4
 a4:=Tryz.isAgg4
 z4:=Tryz.sizeOf4
 v4:=Tryz.zeroValue4
 t5:=Tryz.underlying5
 a5:=Tryz.isAgg5
 z5:=Tryz.sizeOf5
 v5:=Tryz.zeroValue5
 t9:=Tryz.underlying9
 a9:=Tryz.isAgg9
 z9:=Tryz.sizeOf9
 v9:=Tryz.zeroValue9
 t22:=Tryz.underlying101
 a22:=Tryz.isAgg101
 z22:=Tryz.sizeOf101
 v22:=Tryz.zeroValue101
 t25:=Tryz.underlying160
 a25:=Tryz.isAgg160
 z25:=Tryz.sizeOf160
 v25:=Tryz.zeroValue160
 t39:=Tryz.underlying150
 a39:=Tryz.isAgg150
 z39:=Tryz.sizeOf150
 v39:=Tryz.zeroValue150
 t45:=Tryz.underlying215
 a45:=Tryz.isAgg215
 z45:=Tryz.sizeOf215
 v45:=Tryz.zeroValue215
 t46:=Tryz.underlying216
 a46:=Tryz.isAgg216
 z46:=Tryz.sizeOf216
 v46:=Tryz.zeroValue216
 t50:=Tryz.underlying113
 a50:=Tryz.isAgg113
 z50:=Tryz.sizeOf113
 v50:=Tryz.zeroValue113
 t53:=Tryz.underlying222
 a53:=Tryz.isAgg222
 z53:=Tryz.sizeOf222
 v53:=Tryz.zeroValue222
 t55:=Tryz.underlying224
 a55:=Tryz.isAgg224
 z55:=Tryz.sizeOf224
 v55:=Tryz.zeroValue224
 t66:=Tryz.underlying251
 a66:=Tryz.isAgg251
 z66:=Tryz.sizeOf251
 v66:=Tryz.zeroValue251
 t70:=Tryz.underlying255
 a70:=Tryz.isAgg255
 z70:=Tryz.sizeOf255
 v70:=Tryz.zeroValue255
 t76:=Tryz.underlying286
 a76:=Tryz.isAgg286
 z76:=Tryz.sizeOf286
 v76:=Tryz.zeroValue286
 t77:=Tryz.underlying143
 a77:=Tryz.isAgg143
 z77:=Tryz.sizeOf143
 v77:=Tryz.zeroValue143 }
end Go.Proofs
namespace Go.Proofs.YthfdnklcgfkjoaaGreatDoor.Abs
open Go Tryz
def afj (x y:Stg):ES [.val ak x,.val ak y]=some (true,.val tInt (jr x y)):=Φ
def alS (P:am prog 97 ES):OQ prog 96 TU :=
 acB rfl Φ Ϛ ⟨f96,func96,Φ,Φ⟩
  (λl J h1 cf T g cb r j cap d w eg f U R C=>AnyQ.slices_SortFunc laysS _ isAgg106 sizeOf106 l J h1 cf T g cb r j cap d w eg f U R C)
  (λp cap fv w=>AnyF.slices_SortFunc_none laysS p cap fv w) D5
  (λx y _ _=>meets_of_ent P (xs:=[⟨_,x⟩,⟨_,y⟩]) (afj x y))
end Go.Proofs.YthfdnklcgfkjoaaGreatDoor.Abs
namespace Go.Proofs.YthfdnklcgfkjoaaGreatDoor.Abs
open Go Tryz
def ajJ:am prog 137 EH:=aaz trivial
def afo:am prog 99 Iv:=afq ⟨ajJ,awN⟩
def alk:am prog 98 Xk:=aiQ trivial  ZK
def OL:am prog 48 xo:=abG trivial
def adJ:am prog 53 Hi:=Va trivial trivial trivial ND
def Rd:am prog 16 Au:=U9 trivial  NC
def QM:am prog 61 Ae:=UI ⟨OL,awN⟩  Na
def OH:am prog 45 EW:=abC ⟨QM,awN⟩  Tp
def acF:am prog 32 MH:=acI ⟨QM,awN⟩  Ub
def aaY:am prog 50 CH:=SM trivial  Ju
def afw:am prog 51 Iy:=V6 trivial  Ox
def akq:am prog 97 ES:=abc ⟨afo,alk,awN⟩  SV
def acm:am prog 52 FE:=TQ trivial ⟨alS akq,awN⟩ Mw
def al6:am prog 30 Uy:=acZ ⟨aaY,afw,adJ,acm,awN⟩ trivial trivial Ut
end Go.Proofs.YthfdnklcgfkjoaaGreatDoor.Abs
