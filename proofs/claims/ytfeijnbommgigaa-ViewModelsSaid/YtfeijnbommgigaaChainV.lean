/- Every function's contract, one after the other. (Printed by chain.py.) -/
import Derived.Test.YtfeijnbommgigaaMeetV5
import Derived.Test.YtfeijnbommgigaaAbsX
import Derived.Test.YtfeijnbommgigaaSortLV
namespace Go.Proofs.Ytfeijnbommgigaa.Abs
open Go
theorem isNaN_x : EntOk Try.prog 60 isNaN_e := isNaN_all trivial
theorem cmpI_x : EntOk Try.prog 37 cmpI_e := cmpI_all ⟨isNaN_x, trivial⟩
theorem orI_x : EntOk Try.prog 36 orI_e := orI_ent trivial  orI_meets
theorem ahead_x : EntOk Try.prog 38 ahead_e := ahead_all trivial
theorem mod2_x : EntOk Try.prog 13 mod2_e := mod2_ent trivial  mod2_meets
theorem id2_x : EntOk Try.prog 12 id2_e := id2_ent ⟨mod2_x, trivial⟩  id2_meets
theorem value2_x : EntOk Try.prog 33 value2_e := value2_ent ⟨mod2_x, trivial⟩  value2_meets
theorem fields2_x : EntOk Try.prog 31 fields2_e := fields2_ent ⟨mod2_x, trivial⟩  fields2_meets
theorem sameC_x : EntOk Try.prog 14 sameC_e := sameC_ent trivial  sameC_meets
theorem modelV_x : EntOk Try.prog 11 modelV_e := modelV_ent trivial trivial trivial modelV_meets
theorem modelX_x : EntOk Try.prog 15 modelX_e := modelX_ent trivial  modelX_meets
theorem withV_x : EntOk Try.prog 16 withV_e := withV_ent ⟨cmpI_x, orI_x, trivial⟩  withV_meets
theorem withX_x : EntOk Try.prog 17 withX_e := withX_ent ⟨ahead_x, trivial⟩  withX_meets
theorem placeX_x : EntOk Try.prog 58 placeX_e := placeX_ent ⟨ahead_x, trivial⟩  placeX_meets
theorem altsX_x : EntOk Try.prog 32 altsX_e := altsX_ent ⟨placeX_x, trivial⟩  altsX_meets
theorem setX_x : EntOk Try.prog 34 setX_e := setX_ent ⟨placeX_x, trivial⟩  setX_meets
theorem stateX_x : EntOk Try.prog 9 stateX_e := stateX_ent ⟨id2_x, fields2_x, altsX_x, value2_x, setX_x, trivial⟩  stateX_meets
theorem differV_x : EntOk Try.prog 51 differV_e := differV_ent trivial  differV_meets
theorem unlikeX_x : EntOk Try.prog 54 unlikeX_e := unlikeX_ent trivial  unlikeX_meets
theorem cloneA_x : EntOk Try.prog 52 cloneA_e := cloneA_ent trivial  cloneA_meets
theorem cmpSt_x : EntOk Try.prog 68 cmpSt_e := cmpSt_ent ⟨cmpI_x, orI_x, trivial⟩  cmpSt_meets
theorem standV_x : EntOk Try.prog 53 standV_e := standV_ent trivial ⟨srtS_k cmpSt_x, trivial⟩ standV_meets
theorem regV_x : EntOk Try.prog 28 regV_e := regV_ent ⟨differV_x, cloneA_x, modelV_x, standV_x, trivial⟩ trivial trivial regV_meets
theorem crowdsX_x : EntOk Try.prog 55 crowdsX_e := crowdsX_ent ⟨ahead_x, trivial⟩  crowdsX_meets
theorem regX_x : EntOk Try.prog 29 regX_e := regX_ent ⟨unlikeX_x, modelX_x, crowdsX_x, trivial⟩  regX_meets
theorem sameA_x : EntOk Try.prog 56 sameA_e := sameA_ent trivial  sameA_meets
theorem sameI_x : EntOk Try.prog 57 sameI_e := sameI_ent trivial  sameI_meets
theorem sameReg_x : EntOk Try.prog 30 sameReg_e := sameReg_ent ⟨sameA_x, sameI_x, trivial⟩  sameReg_meets
theorem regionsL_x : EntOk Try.prog 8 regionsL_e := regionsL_ent ⟨regV_x, regX_x, sameReg_x, trivial⟩  regionsL_meets
theorem awake27_x : EntOk Try.prog 10 awake27_e := awake27_ent ⟨regV_x, modelV_x, trivial⟩  awake27_meets
theorem lawModels_x : EntOk Try.prog 4 lawModels_e := lawModels_ent ⟨stateX_x, modelV_x, id2_x, mod2_x, modelX_x, sameC_x, withV_x, withX_x, awake27_x, trivial⟩  lawModels_meets
theorem lawRegions_x : EntOk Try.prog 3 lawRegions_e := lawRegions_ent ⟨stateX_x, regionsL_x, awake27_x, trivial⟩  lawRegions_meets
theorem tab_good : ∀ t τ, tabL.tab.ty t = some τ → τ.good = true := fun t τ h => List.all_eq_true.1 (by kernel_rfl : (tabL.ty.all fun p => p.2.good) = true) (t, τ) (look_mem h)
theorem own_k : ownKnob Try.prog.godebug = none := by kernel_rfl
theorem laid_k : laidOutB Try.prog = true := by kernel_rfl
end Go.Proofs.Ytfeijnbommgigaa.Abs
