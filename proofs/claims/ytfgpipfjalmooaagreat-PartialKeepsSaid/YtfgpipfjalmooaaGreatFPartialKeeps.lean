/- The statement 'PartialKeepsSaid': for every input the law returns true and the input reads as it did. No condition. -/
import Derived.Test.YtfgpipfjalmooaaGreatLawM
import Derived.Test.YtfgpipfjalmooaaGreatFacK
set_option linter.all false
namespace Go.Proofs.YtfgpipfjalmooaaGreat.Abs
open Go Go.ChangeShapes Go.WideShapes Go.ChangeAt Go.RowKit Tryz
theorem Z0:∀t f,kF.tab.ty t=some f→f.good=true:=λt f h=>X'.1 (by kernel_rfl:(kF.ty.all λp=>p.2.good)=true) (t,f) (mI h)
theorem aji:ownKnob Tryz.prog.godebug=none:=Φ
theorem ah6:laidOutB Tryz.prog=true:=Φ
theorem FZ (l:List ((t:Ty)×t.den))(h:l.map (·.1)=[tInt,(.slice bg),(.slice tInt)]):MeetsD Tryz.prog 3 l (.val .bool true):=by
 match l,h with
 |[⟨_,j⟩,⟨_,g⟩,⟨_,f⟩],rfl=>
  obtain⟨r,e,C⟩:=Ma j g f;have p:GK (([⟨tInt,j⟩,⟨(.slice bg),g⟩,⟨(.slice tInt),f⟩]:List ((t:Ty)×t.den)).map λd=>.val d.1 d.2)=some ((gU j g f).isSome,ac ((gU j g f).getD (zero .bool))):=Φ
  rw[e,C]at p;exact meets_of_ent Tt p
theorem F0:LawOk Tryz.checked kF.tab 3 Tryz.f3 [tInt,(.slice bg),(.slice tInt)] 4 :=
 ⟨aji,Φ,Tryz.func3,ah6,Φ,Φ,Φ,aet Φ,Z0,iu⟩
theorem z7 (H:Type)(f:List (DataW H))(h:f.length=3):Rows.partialKeepsSpec.fn H f={ results:=[.lit (.bool true)],args:=f }:=by
 match f,h with
 |[x0,x1,x2],_=>rfl
set_option maxRecDepth 100000 in
theorem partialKeeps_holds:Rows.PartialKeepsSaid :=
 OpenClaim.holds_of_wide 3 Tryz.f3 rfl rfl rfl rfl rfl rfl rfl ⟨rfl,rfl,rfl,rfl,rfl⟩ rfl rfl rfl rfl rfl Φ Tryz.func3 ab5
  (d_ Φ) (by unfold Func.isWrapper;first|(rw[G' (by decide +kernel)];kernel_rfl)|(rw[Θ (by decide +kernel)];exact⟨rfl,rfl⟩))
  (λ_ f _ enc _=>Ts F0 rfl z7 (λg h _=>FZ g h) f
   (ChangeSpec.witness6 (enc:=enc) (C:=Tryz.checked) false ⟨#[], #[.int .i64 0,.slice none 0 0,.slice none 0 0],[]⟩ 8 Φ Φ Φ Φ))
#print axioms partialKeeps_holds
