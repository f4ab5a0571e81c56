/- The closed facts of a row, one by one. -/
import Derived.Test.YtdjhicbhegaenaaGreatDoorRows
import Derived.JoinedOf
namespace Go.Proofs.YtdjhicbhegaenaaGreatDoor.Quo
open Go Go.Proofs
theorem fqand {a b : Bool} (h : a = true) (k : b = true) : (a && b) = true := by rw [h, k]; rfl
theorem fq0 : (Rows.regionQuotesRow.wf (OpenSpec.ofChange Rows.regionQuotesSpec)) = true := by kernel_rfl
theorem fq1 : (laidOutB Tryz.pinned.checked.prog) = true := by kernel_rfl
theorem fq2 : (mapsRowed Tryz.pinned.checked.prog) = true := by kernel_rfl
theorem fq3 : (Tryz.f3.params.all (Tryz.pinned.checked.prog.readableRec ·)) = true := by kernel_rfl
theorem fq4 : (namedTie Tryz.pinned.checked.prog Rows.regionQuotesRow.named Rows.regionQuotesSpec.vars) = true := by kernel_rfl
theorem fq5 : ((Rows.regionQuotesRow.stops == [])) = true := by kernel_rfl
theorem fq6 : ((Tryz.pinned.checked.prog.stops == [])) = true := by kernel_rfl
theorem fq7 : ((Rows.regionQuotesRow.knobs == [])) = true := by kernel_rfl
theorem fq8 : ((Tryz.pinned.checked.prog.stopKnobs == [])) = true := by kernel_rfl
theorem fq9 : ((Rows.regionQuotesRow.inPlace == Tryz.pinned.checked.prog.inPlace 3)) = true := by kernel_rfl
theorem fq10 : ((Rows.regionQuotesRow.unfollowed == Tryz.pinned.checked.prog.unfollowed 3)) = true := by kernel_rfl
theorem fq11 : ((Rows.regionQuotesRow.recurses == Tryz.pinned.checked.prog.recurses 3)) = true := by kernel_rfl
theorem fq12 : ((Rows.regionQuotesRow.named == Tryz.pinned.checked.prog.varsNamed 3)) = true := by kernel_rfl
theorem fq13 : ((Rows.regionQuotesRow.maps == (Tryz.f3.params.toList ++ Rows.regionQuotesSpec.plain.varTypes Tryz.pinned.checked.prog).any (Tryz.pinned.checked.prog.mapsRec ·))) = true := by kernel_rfl
theorem fq14 : ((Rows.regionQuotesRow.ifaces == (Tryz.f3.params.toList ++ Rows.regionQuotesSpec.plain.varTypes Tryz.pinned.checked.prog).any (Tryz.pinned.checked.prog.ifacesRec ·))) = true := by kernel_rfl
theorem fq15 : ((Rows.regionQuotesRow.mapsOut == Tryz.pinned.checked.prog.mapsAmong Tryz.f3.resultTypes.toList)) = true := by kernel_rfl
theorem fq16 : ((Rows.regionQuotesRow.loops == (Tryz.f3.params.toList ++ Rows.regionQuotesSpec.plain.varTypes Tryz.pinned.checked.prog).any (Tryz.pinned.checked.prog.loopsFrom ·))) = true := by kernel_rfl
theorem fq17 : ((Rows.regionQuotesRow.wideKeys == (Tryz.f3.params.toList ++ Rows.regionQuotesSpec.plain.varTypes Tryz.pinned.checked.prog ++ Tryz.f3.resultTypes.toList).any (Tryz.pinned.checked.prog.wideKeysFrom ·))) = true := by kernel_rfl
theorem fq18 : (Rows.regionQuotesSpec.vars.all (Tryz.pinned.checked.prog.varReadable ·)) = true := by kernel_rfl
theorem fq19 : (Tryz.f3.resultTypes.all (fun t => Tryz.pinned.checked.prog.readableRec t && decide (t < Tryz.pinned.checked.prog.types.size))) = true := by kernel_rfl
theorem fq20 : ((Rows.regionQuotesRow.ifacesOut == Tryz.f3.resultTypes.toList.any (Tryz.pinned.checked.prog.ifacesRec ·))) = true := by kernel_rfl
theorem fq21 : ((Rows.regionQuotesRow.loopsOut == Tryz.f3.resultTypes.toList.any (Tryz.pinned.checked.prog.loopsFrom ·))) = true := by kernel_rfl
theorem fq22 : ((Rows.regionQuotesRow.plainKeys == Tryz.pinned.checked.prog.plainKeys)) = true := by kernel_rfl
theorem fq23 : (Rows.regionQuotesRow.shortTexts.isNone) = true := by kernel_rfl
theorem fq24 : (Tryz.pinned.checked.prog.stopsHeard) = true := by kernel_rfl
theorem fq25 : (Tryz.pinned.checked.prog.mayEnter) = true := by kernel_rfl
theorem fq26 : ((Rows.regionQuotesRow.lifted == Tryz.pinned.checked.prog.liftsFinal)) = true := by kernel_rfl
theorem fq27 : ((Tryz.pinned.checked.prog.make == some Rows.regionQuotesRow.make)) = true := by kernel_rfl
theorem fq28 : ((Rows.regionQuotesRow.kinds == (if Rows.regionQuotesRow.domain.isEmpty then [] else Tryz.f3.params.toList.map fun t => match Tryz.pinned.checked.prog.underlying t with | some (.int k) => some k | _ => none))) = true := by kernel_rfl
theorem fq29 : ((Rows.regionQuotesRow.pinned == Rows.regionQuotesRow.pinnedBy)) = true := by kernel_rfl
theorem fq30 : ((Rows.regionQuotesRow.veiled == (Tryz.f3.params.toList ++ Rows.regionQuotesSpec.plain.varTypes Tryz.pinned.checked.prog ++ Tryz.f3.resultTypes.toList).any (Tryz.pinned.checked.prog.veiledRec ·))) = true := by kernel_rfl
theorem fq31 : (Rows.regionQuotesRow.veiledFits Tryz.pinned.checked.prog Tryz.f3.params.toList (Tryz.f3.params.toList ++ Rows.regionQuotesSpec.plain.varTypes Tryz.pinned.checked.prog ++ Tryz.f3.resultTypes.toList)) = true := by kernel_rfl
set_option maxRecDepth 100000 in
theorem fqjoined : joinedFacts Tryz.pinned.checked.prog 3 Tryz.f3 Rows.regionQuotesSpec Rows.regionQuotesRow = true := by
  unfold joinedFacts
  exact (fqand (fqand (fqand (fqand (fqand (fqand (fqand (fqand (fqand (fqand (fqand (fqand (fqand (fqand (fqand (fqand (fqand (fqand (fqand (fqand (fqand (fqand (fqand (fqand (fqand (fqand (fqand (fqand (fqand (fqand (fqand fq0 fq1) fq2) fq3) fq4) fq5) fq6) fq7) fq8) fq9) fq10) fq11) fq12) fq13) fq14) fq15) fq16) fq17) fq18) fq19) fq20) fq21) fq22) fq23) fq24) fq25) fq26) fq27) fq28) fq29) fq30) fq31)
end Go.Proofs.YtdjhicbhegaenaaGreatDoor.Quo
