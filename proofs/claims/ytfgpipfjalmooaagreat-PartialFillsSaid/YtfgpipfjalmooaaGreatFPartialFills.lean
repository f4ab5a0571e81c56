/- The statement 'PartialFillsSaid': for every input the law returns true and the input reads as it did. No condition. -/
import Derived.Test.YtfgpipfjalmooaaGreatLawF
import Derived.Test.YtfgpipfjalmooaaGreatFacF
set_option linter.all false
namespace Go.Proofs.YtfgpipfjalmooaaGreat.Abs
open Go Go.ChangeShapes Go.WideShapes Go.ChangeAt Go.RowKit Tryz
theorem aam:∀t f,Ci.tab.ty t=some f→f.good=true:=λt f h=>G'.1 (by kernel_rfl:(Ci.ty.all λp=>p.2.good)=true) (t,f) (mX h)
theorem aiG:ownKnob Tryz.prog.godebug=none:=Φ
theorem ahC:laidOutB Tryz.prog=true:=Φ
theorem Gq (J:List ((t:Ty)×t.den))(h:J.map (·.1)=[tInt,(.slice aX),(.slice tInt),(.slice tInt),tInt,tInt]):MeetsD Tryz.prog 4 J (.val .bool true):=by
 match J,h with
 |[⟨_,C⟩,⟨_,p⟩,⟨_,l⟩,⟨_,j⟩,⟨_,g⟩,⟨_,f⟩],rfl=>
  obtain⟨r,e,R⟩:=MH C p l j g f;have P:G9 (([⟨tInt,C⟩,⟨(.slice aX),p⟩,⟨(.slice tInt),l⟩,⟨(.slice tInt),j⟩,⟨tInt,g⟩,⟨tInt,f⟩]:List ((t:Ty)×t.den)).map λd=>.val d.1 d.2)=some ((gY C p l j g f).isSome,ac ((gY C p l j g f).getD (zero .bool))):=Φ
  rw[e,R]at P;exact meets_of_ent TS P
theorem Gr:LawOk Tryz.checked Ci.tab 4 Tryz.f4 [tInt,(.slice aX),(.slice tInt),(.slice tInt),tInt,tInt] 4 :=
 ⟨aiG,Φ,Tryz.func4,ahC,Φ,Φ,Φ,aem Φ,aam,Jv⟩
theorem Ao (H:Type)(f:List (DataW H))(h:f.length=6):Rows.partialFillsSpec.fn H f={ results:=[.lit (.bool true)],args:=f }:=by
 match f,h with
 |[x0,x1,x2,x3,x4,x5],_=>rfl
set_option maxRecDepth 100000 in
theorem partialFills_holds:Rows.PartialFillsSaid :=
 OpenClaim.holds_of_wide 4 Tryz.f4 rfl rfl rfl rfl rfl rfl rfl ⟨rfl,rfl,rfl,rfl,rfl⟩ rfl rfl rfl rfl rfl Φ Tryz.func4 ab5
  (N' Φ) (by unfold Func.isWrapper;first|(rw[q' (by decide +kernel)];kernel_rfl)|(rw[B' (by decide +kernel)];exact⟨rfl,rfl⟩))
  (λ_ f _ enc _=>TR Gr rfl Ao (λg h _=>Gq g h) f
   (ChangeSpec.witness6 (enc:=enc) (C:=Tryz.checked) false ⟨#[], #[.int .i64 0,.slice none 0 0,.slice none 0 0,.slice none 0 0,.int .i64 0,.int .i64 0],[]⟩ 8 Φ Φ Φ Φ))
#print axioms partialFills_holds
