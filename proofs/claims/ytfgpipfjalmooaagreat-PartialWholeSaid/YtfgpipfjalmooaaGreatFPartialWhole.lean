/- The statement 'PartialWholeSaid': for every input the law returns true and the input reads as it did. No condition. -/
import Derived.Test.YtfgpipfjalmooaaGreatLawJ
import Derived.Test.YtfgpipfjalmooaaGreatFacW
set_option linter.all false
namespace Go.Proofs.YtfgpipfjalmooaaGreat.Abs
open Go Go.ChangeShapes Go.WideShapes Go.ChangeAt Go.RowKit Tryz
theorem Zv:∀t f,nB.tab.ty t=some f→f.so=true:=λt f h=>P'.1 (by kernel_rfl:(nB.ty.all λp=>p.2.so)=true) (t,f) (l7 h)
theorem ai2:ownKnob Tryz.prog.godebug=none:=Φ
theorem ahQ:laidOutB Tryz.prog=true:=Φ
theorem Ff (p:List ((t:Ty)×t.den))(h:p.map (·.1)=[tInt,(.slice be),(.slice tInt),tInt]):MeetsD Tryz.prog 5 p (.val .bool true):=by
 match p,h with
 |[⟨_,l⟩,⟨_,j⟩,⟨_,g⟩,⟨_,f⟩],rfl=>
  obtain⟨r,e,J⟩:=Ly l j g f;have C:F4 (([⟨tInt,l⟩,⟨(.slice be),j⟩,⟨(.slice tInt),g⟩,⟨tInt,f⟩]:List ((t:Ty)×t.den)).map λd=>.val d.1 d.2)=some ((gH l j g f).isSome,ae ((gH l j g f).getD (zero .bool))):=Φ
  rw[e,J]at C;exact meets_of_ent SL C
theorem Fg:LawOk Tryz.checked nB.tab 5 Tryz.f5 [tInt,(.slice be),(.slice tInt),tInt] 4 :=
 ⟨ai2,Φ,Tryz.func5,ahQ,Φ,Φ,Φ,ad7 Φ,Zv,jd⟩
theorem zg (H:Type)(f:List (DataW H))(h:f.length=4):Rows.partialWholeSpec.fn H f={ results:=[.lit (.bool true)],args:=f }:=by
 match f,h with
 |[x0,x1,x2,x3],_=>rfl
set_option maxRecDepth 100000 in
theorem partialWhole_holds:Rows.PartialWholeSaid :=
 OpenClaim.holds_of_wide 5 Tryz.f5 rfl rfl rfl rfl rfl rfl rfl ⟨rfl,rfl,rfl,rfl,rfl⟩ rfl rfl rfl rfl rfl Φ Tryz.func5 abG
  (t_ Φ) (by unfold Func.isWrapper;first|(rw[Θ (by decide +kernel)];kernel_rfl)|(rw[ω (by decide +kernel)];exact⟨rfl,rfl⟩))
  (λ_ f _ enc _=>SJ Fg rfl zg (λg h _=>Ff g h) f
   (ChangeSpec.witness6 (enc:=enc) (C:=Tryz.checked) false ⟨#[], #[.int .i64 0,.slice none 0 0,.slice none 0 0,.int .i64 0],[]⟩ 8 Φ Φ Φ Φ))
#print axioms partialWhole_holds
