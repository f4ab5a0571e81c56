/- The statement 'FollowNamesSaid': for every input the law returns true and the input reads as it did. No condition. -/
import Derived.Test.YteiopcmalidhaaaGreatLawN
import Derived.Test.YteiopcmalidhaaaGreatFacN
set_option linter.all false
namespace Go.Proofs.YteiopcmalidhaaaGreat.Abs
open Go Go.ChangeShapes Go.WideShapes Go.ChangeAt Go.RowKit Tryz
theorem Xc:∀t f,ji.tab.ty t=some f→f.good=true:=λt f h=>T'.1 (by kernel_rfl:(ji.ty.all λp=>p.2.good)=true) (t,f) (l6 h)
theorem agX:ownKnob Tryz.prog.godebug=none:=Φ
theorem afl:laidOutB Tryz.prog=true:=Φ
theorem Ga (l:List ((t:Ty)×t.den))(h:l.map (·.1)=[tInt,(.slice bi),tInt]):MeetsD Tryz.prog 3 l (.val .bool true):=by
 match l,h with
 |[⟨_,j⟩,⟨_,g⟩,⟨_,f⟩],rfl=>
  obtain⟨r,e,C⟩:=Ki j g f;have p:Es (([⟨tInt,j⟩,⟨(.slice bi),g⟩,⟨tInt,f⟩]:List ((t:Ty)×t.den)).map λd=>.val d.1 d.2)=some ((gE j g f).isSome,aa ((gE j g f).getD (zero .bool))):=Φ
  rw[e,C]at p;exact meets_of_ent QW p
theorem Gb:LawOk Tryz.checked ji.tab 3 Tryz.f3 [tInt,(.slice bi),tInt] 4 :=
 ⟨agX,Φ,Tryz.func3,afl,Φ,Φ,Φ,abz Φ,Xc,gT⟩
theorem Aj (H:Type)(f:List (DataW H))(h:f.length=3):Rows.followNamesSpec.fn H f={ results:=[.lit (.bool true)],args:=f }:=by
 match f,h with
 |[x0,x1,x2],_=>rfl
set_option maxRecDepth 100000 in
theorem followNames_holds:Rows.FollowNamesSaid :=
 OpenClaim.holds_of_wide 3 Tryz.f3 rfl rfl rfl rfl rfl rfl rfl ⟨rfl,rfl,rfl,rfl,rfl⟩ rfl rfl rfl rfl rfl Φ Tryz.func3 Zd
  (p_ Φ) (by unfold Func.isWrapper;first|(rw[β (by decide +kernel)];kernel_rfl)|(rw[B' (by decide +kernel)];exact⟨rfl,rfl⟩))
  (λ_ f _ enc _=>QV Gb rfl Aj (λg h _=>Ga g h) f
   (ChangeSpec.witness6 (enc:=enc) (C:=Tryz.checked) false ⟨#[], #[.int .i64 0,.slice none 0 0,.int .i64 0],[]⟩ 8 Φ Φ Φ Φ))
#print axioms followNames_holds
