/- The statement 'PartialGrowsSaid': for every input the law returns true and the input reads as it did. No condition. -/
import Derived.Test.YtfgpipfjalmooaaGreatLawG
import Derived.Test.YtfgpipfjalmooaaGreatFacA
set_option linter.all false
namespace Go.Proofs.YtfgpipfjalmooaaGreat.Abs
open Go Go.ChangeShapes Go.WideShapes Go.ChangeAt Go.RowKit
theorem XQ:∀t f,sw.tab.ty t=some f→f.good=true:=λt f h=>Z'.1 (by kernel_rfl:(sw.ty.all λp=>p.2.good)=true) (t,f) (lV h)
theorem ahG:ownKnob Tryz.prog.godebug=none:=Φ
theorem agj:laidOutB Tryz.prog=true:=Φ
theorem Eu (p:List ((t:Ty)×t.den))(h:p.map (·.1)=[tInt,(.slice bc),(.slice tInt),(.slice tInt)]):MeetsD Tryz.prog 6 p (.val .bool true):=by
 match p,h with
 |[⟨_,l⟩,⟨_,j⟩,⟨_,g⟩,⟨_,f⟩],rfl=>
  obtain⟨r,e,J⟩:=KF l j g f;have C:Fd (([⟨tInt,l⟩,⟨(.slice bc),j⟩,⟨(.slice tInt),g⟩,⟨(.slice tInt),f⟩]:List ((t:Ty)×t.den)).map λd=>.val d.1 d.2)=some ((gH l j g f).isSome,ac ((gH l j g f).getD (zero .bool))):=Φ
  rw[e,J]at C;exact meets_of_ent Re C
theorem Ew:LawOk Tryz.checked sw.tab 6 Tryz.f6 [tInt,(.slice bc),(.slice tInt),(.slice tInt)] 4 :=
 ⟨ahG,Φ,Tryz.func6,agj,Φ,Φ,Φ,aco Φ,XQ,pd⟩
theorem yF (H:Type)(f:List (DataW H))(h:f.length=4):Rows.partialGrowsSpec.fn H f={ results:=[.lit (.bool true)],args:=f }:=by
 match f,h with
 |[x0,x1,x2,x3],_=>rfl
set_option maxRecDepth 100000 in
theorem partialGrows_holds:Rows.PartialGrowsSaid :=
 OpenClaim.holds_of_wide 6 Tryz.f6 rfl rfl rfl rfl rfl rfl rfl ⟨rfl,rfl,rfl,rfl,rfl⟩ rfl rfl rfl rfl rfl Φ Tryz.func6 ZV
  (w_ Φ) (by unfold Func.isWrapper;first|(rw[E' (by decide +kernel)];kernel_rfl)|(rw[Θ (by decide +kernel)];exact⟨rfl,rfl⟩))
  (λ_ f _ enc _=>Rd Ew rfl yF (λg h _=>Eu g h) f
   (ChangeSpec.witness6 (enc:=enc) (C:=Tryz.checked) false ⟨#[], #[.int .i64 0,.slice none 0 0,.slice none 0 0,.slice none 0 0],[]⟩ 8 Φ Φ Φ Φ))
#print axioms partialGrows_holds
