/- Every function's contract, one after the other. (Printed by chain.py.) -/
import Derived.Test.YtlipfgaambiklaaLaws
import Derived.Test.YtlipfgaambiklaaAbsX
namespace Go.Proofs.Ytlipfgaambiklaa.Abs
open Go
theorem isNaN_x : EntOk Try.prog 53 isNaN_e := isNaN_all trivial
theorem cmpI_x : EntOk Try.prog 52 cmpI_e := cmpI_all ⟨isNaN_x, trivial⟩
theorem compare_x : EntOk Try.prog 45 compare_e := compare_all ⟨cmpI_x, trivial⟩
theorem based_x : EntOk Try.prog 51 based_e := based_all trivial
theorem idValid_x : EntOk Try.prog 44 idValid_e := idValid_all ⟨based_x, trivial⟩
theorem rIdValid_x : EntOk Try.prog 48 rIdValid_e := rIdValid_all trivial
theorem ahead_x : EntOk Try.prog 49 ahead_e := ahead_all trivial
theorem register_x : EntOk Try.prog 50 register_e := register_all trivial
theorem ofR_x : EntOk Try.prog 46 ofR_e := ofR_all trivial
theorem beforeR_x : EntOk Try.prog 47 beforeR_e := beforeR_all trivial
theorem writes_x : EntOk Try.prog 23 writes_e := writes_ent ⟨idValid_x, compare_x, trivial⟩  writes_meets
theorem valid_x : EntOk Try.prog 22 valid_e := valid_ent ⟨writes_x, trivial⟩  valid_meets
theorem put_x : EntOk Try.prog 24 put_e := put_ent ⟨valid_x, writes_x, compare_x, trivial⟩  put_meets
theorem indep_x : EntOk Try.prog 16 indep_e := indep_ent ⟨writes_x, trivial⟩ ⟨ofR_x, beforeR_x, trivial⟩ trivial trivial indep_meets
theorem compose_x : EntOk Try.prog 18 compose_e := compose_ent ⟨writes_x, trivial⟩ ⟨ofR_x, beforeR_x, trivial⟩ trivial trivial compose_meets
theorem inverse_x : EntOk Try.prog 12 inverse_e := inverse_ent ⟨valid_x, writes_x, trivial⟩ ⟨ofR_x, beforeR_x, trivial⟩ trivial trivial trivial inverse_meets
theorem restC_x : EntOk Try.prog 20 restC_e := restC_ent ⟨writes_x, trivial⟩ ⟨ofR_x, beforeR_x, trivial⟩ trivial trivial trivial restC_meets
theorem leastC_x : EntOk Try.prog 14 leastC_e := leastC_ent ⟨valid_x, writes_x, trivial⟩ ⟨ofR_x, beforeR_x, trivial⟩ trivial trivial trivial trivial leastC_meets
theorem rWrites_x : EntOk Try.prog 32 rWrites_e := rWrites_ent ⟨rIdValid_x, ahead_x, trivial⟩  rWrites_meets
theorem rValid_x : EntOk Try.prog 31 rValid_e := rValid_ent ⟨rWrites_x, trivial⟩  rValid_meets
theorem rGet_x : EntOk Try.prog 33 rGet_e := rGet_ent trivial  rGet_meets
theorem rOver_x : EntOk Try.prog 40 rOver_e := rOver_ent ⟨ahead_x, register_x, trivial⟩  rOver_meets
theorem rSame_x : EntOk Try.prog 11 rSame_e := rSame_ent trivial  rSame_meets
theorem rHas_x : EntOk Try.prog 43 rHas_e := rHas_ent ⟨register_x, trivial⟩  rHas_meets
theorem rRest_x : EntOk Try.prog 21 rRest_e := rRest_ent ⟨rWrites_x, rHas_x, trivial⟩  rRest_meets
theorem rIndep_x : EntOk Try.prog 17 rIndep_e := rIndep_ent ⟨rWrites_x, rRest_x, trivial⟩  rIndep_meets
theorem rCompose_x : EntOk Try.prog 19 rCompose_e := rCompose_ent ⟨rWrites_x, rOver_x, trivial⟩  rCompose_meets
theorem rInverse_x : EntOk Try.prog 13 rInverse_e := rInverse_ent ⟨rValid_x, rWrites_x, rGet_x, trivial⟩  rInverse_meets
theorem rLeast_x : EntOk Try.prog 15 rLeast_e := rLeast_ent ⟨rValid_x, rWrites_x, rGet_x, trivial⟩  rLeast_meets
theorem modI_x : EntOk Try.prog 25 modI_e := modI_ent trivial  modI_meets
theorem nameL_x : EntOk Try.prog 26 nameL_e := nameL_all trivial
theorem light_x : EntOk Try.prog 9 light_e := light_all trivial
theorem awake_x : EntOk Try.prog 10 awake_e := awake_ent ⟨nameL_x, inverse_x, indep_x, compose_x, leastC_x, trivial⟩  awake_meets
theorem lawModels_x : EntOk Try.prog 3 lawModels_e := lawModels_ent ⟨light_x, awake_x, inverse_x, rInverse_x, rSame_x, leastC_x, rLeast_x, trivial⟩  lawModels_meets
theorem lawWrites_x : EntOk Try.prog 4 lawWrites_e := lawWrites_ent ⟨light_x, awake_x, indep_x, rIndep_x, compose_x, rCompose_x, rSame_x, restC_x, rRest_x, trivial⟩  lawWrites_meets
theorem lawComposes_x : EntOk Try.prog 5 lawComposes_e := lawComposes_ent ⟨light_x, valid_x, writes_x, awake_x, put_x, compose_x, rSame_x, trivial⟩  lawComposes_meets
theorem lawApart_x : EntOk Try.prog 6 lawApart_e := lawApart_ent ⟨light_x, valid_x, indep_x, awake_x, put_x, rSame_x, compose_x, trivial⟩  lawApart_meets
theorem lawInverts_x : EntOk Try.prog 7 lawInverts_e := lawInverts_ent ⟨light_x, valid_x, writes_x, awake_x, put_x, inverse_x, rSame_x, trivial⟩  lawInverts_meets
theorem lawLeast_x : EntOk Try.prog 8 lawLeast_e := lawLeast_ent ⟨light_x, valid_x, writes_x, awake_x, leastC_x, put_x, rSame_x, modI_x, trivial⟩  lawLeast_meets
theorem tab_good : ∀ t τ, tabL.tab.ty t = some τ → τ.good = true := fun t τ h => List.all_eq_true.1 (by kernel_rfl : (tabL.ty.all fun p => p.2.good) = true) (t, τ) (look_mem h)
theorem own_k : ownKnob Try.prog.godebug = none := by kernel_rfl
theorem laid_k : laidOutB Try.prog = true := by kernel_rfl
end Go.Proofs.Ytlipfgaambiklaa.Abs
