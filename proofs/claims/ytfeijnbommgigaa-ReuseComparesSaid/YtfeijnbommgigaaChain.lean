/- Every function's contract, one after the other. (Printed by chain.py.) -/
import Derived.Test.YtfeijnbommgigaaMeetR5
import Derived.Test.YtfeijnbommgigaaAbsX
import Derived.Test.YtfeijnbommgigaaSortL
namespace Go.Proofs.Ytfeijnbommgigaa.Abs
open Go
theorem isNaN_x : EntOk Try.prog 60 isNaN_e := isNaN_all trivial
theorem isNaNs_x : EntOk Try.prog 61 isNaNs_e := isNaNs_all trivial
theorem cmpI_x : EntOk Try.prog 37 cmpI_e := cmpI_all ⟨isNaN_x, trivial⟩
theorem cmpS_x : EntOk Try.prog 40 cmpS_e := cmpS_all ⟨isNaNs_x, trivial⟩
theorem orI_x : EntOk Try.prog 36 orI_e := orI_ent trivial  orI_meets
theorem truth_x : EntOk Try.prog 39 truth_e := truth_all trivial
theorem rCmp_x : EntOk Try.prog 18 rCmp_e := rCmp_ent ⟨cmpI_x, truth_x, cmpS_x, orI_x, trivial⟩  rCmp_meets
theorem xCmp_x : EntOk Try.prog 19 xCmp_e := xCmp_ent trivial  xCmp_meets
theorem ahead_x : EntOk Try.prog 38 ahead_e := ahead_all trivial
theorem mod2_x : EntOk Try.prog 13 mod2_e := mod2_ent trivial  mod2_meets
theorem id2_x : EntOk Try.prog 12 id2_e := id2_ent ⟨mod2_x, trivial⟩  id2_meets
theorem eqVs_x : EntOk Try.prog 49 eqVs_e := eqVs_ent trivial  eqVs_meets
theorem cmpVs_x : EntOk Try.prog 64 cmpVs_e := cmpVs_ent ⟨rCmp_x, trivial⟩  cmpVs_meets
theorem cmpR_x : EntOk Try.prog 43 cmpR_e := cmpR_ent ⟨cmpI_x, cmpVs_x, rCmp_x, orI_x, trivial⟩  cmpR_meets
theorem sameR1_x : EntOk Try.prog 45 sameR1_e := sameR1_ent ⟨cmpR_x, trivial⟩  sameR1_meets
theorem valuesR_x : EntOk Try.prog 48 valuesR_e := valuesR_ent trivial trivial ⟨srtV_k rCmp_x, trivial⟩ valuesR_meets
theorem addR_x : EntOk Try.prog 22 addR_e := addR_ent trivial ⟨sameR1_x, trivial⟩ ⟨srtR_k cmpR_x, trivial⟩ addR_meets
theorem findR_x : EntOk Try.prog 26 findR_e := findR_ent ⟨valuesR_x, eqVs_x, trivial⟩  findR_meets
theorem xCmpL_x : EntOk Try.prog 50 xCmpL_e := xCmpL_ent ⟨xCmp_x, trivial⟩  xCmpL_meets
theorem xCmpR_x : EntOk Try.prog 46 xCmpR_e := xCmpR_ent ⟨ahead_x, xCmpL_x, xCmp_x, trivial⟩  xCmpR_meets
theorem fromX_x : EntOk Try.prog 41 fromX_e := fromX_ent ⟨xCmp_x, trivial⟩  fromX_meets
theorem insX_x : EntOk Try.prog 47 insX_e := insX_ent ⟨xCmpR_x, trivial⟩  insX_meets
theorem addX_x : EntOk Try.prog 24 addX_e := addX_ent ⟨insX_x, trivial⟩  addX_meets
theorem findX_x : EntOk Try.prog 27 findX_e := findX_ent ⟨fromX_x, xCmpL_x, trivial⟩  findX_meets
theorem valueL_x : EntOk Try.prog 25 valueL_e := valueL_ent ⟨mod2_x, trivial⟩  valueL_meets
theorem recordsL_x : EntOk Try.prog 21 recordsL_e := recordsL_ent ⟨valueL_x, id2_x, mod2_x, fromX_x, trivial⟩  recordsL_meets
theorem sameRs_x : EntOk Try.prog 23 sameRs_e := sameRs_ent ⟨xCmpR_x, trivial⟩  sameRs_meets
theorem awake34_x : EntOk Try.prog 20 awake34_e := awake34_ent ⟨findR_x, rCmp_x, addR_x, trivial⟩  awake34_meets
theorem lawCompares_x : EntOk Try.prog 5 lawCompares_e := lawCompares_ent ⟨rCmp_x, xCmp_x, awake34_x, trivial⟩  lawCompares_meets
theorem lawAdds_x : EntOk Try.prog 6 lawAdds_e := lawAdds_ent ⟨recordsL_x, addR_x, addX_x, sameRs_x, awake34_x, trivial⟩  lawAdds_meets
theorem lawFinds_x : EntOk Try.prog 7 lawFinds_e := lawFinds_ent ⟨recordsL_x, mod2_x, id2_x, valueL_x, findR_x, findX_x, awake34_x, trivial⟩  lawFinds_meets
theorem tab_good : ∀ t τ, tabL.tab.ty t = some τ → τ.good = true := fun t τ h => List.all_eq_true.1 (by kernel_rfl : (tabL.ty.all fun p => p.2.good) = true) (t, τ) (look_mem h)
theorem own_k : ownKnob Try.prog.godebug = none := by kernel_rfl
theorem laid_k : laidOutB Try.prog = true := by kernel_rfl
end Go.Proofs.Ytfeijnbommgigaa.Abs
