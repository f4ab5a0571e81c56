/- The closed facts of a row, one by one. -/
import Derived.Test.YtdjhicbhegaenaaGreatDoorRows
import Derived.JoinedOf
namespace Go.Proofs.YtdjhicbhegaenaaGreatDoor.Quo
open Go Go.Proofs
theorem fuand {a b : Bool} (h : a = true) (k : b = true) : (a && b) = true := by rw [h, k]; rfl
theorem fu0 : (Rows.regionUnquotesRow.wf (OpenSpec.ofChange Rows.regionUnquotesSpec)) = true := by kernel_rfl
theorem fu1 : (laidOutB Tryz.pinned.checked.prog) = true := by kernel_rfl
theorem fu2 : (mapsRowed Tryz.pinned.checked.prog) = true := by kernel_rfl
theorem fu3 : (Tryz.f4.params.all (Tryz.pinned.checked.prog.readableRec ·)) = true := by kernel_rfl
theorem fu4 : (namedTie Tryz.pinned.checked.prog Rows.regionUnquotesRow.named Rows.regionUnquotesSpec.vars) = true := by kernel_rfl
theorem fu5 : ((Rows.regionUnquotesRow.stops == [])) = true := by kernel_rfl
theorem fu6 : ((Tryz.pinned.checked.prog.stops == [])) = true := by kernel_rfl
theorem fu7 : ((Rows.regionUnquotesRow.knobs == [])) = true := by kernel_rfl
theorem fu8 : ((Tryz.pinned.checked.prog.stopKnobs == [])) = true := by kernel_rfl
theorem fu9 : ((Rows.regionUnquotesRow.inPlace == Tryz.pinned.checked.prog.inPlace 4)) = true := by kernel_rfl
theorem fu10 : ((Rows.regionUnquotesRow.unfollowed == Tryz.pinned.checked.prog.unfollowed 4)) = true := by kernel_rfl
theorem fu11 : ((Rows.regionUnquotesRow.recurses == Tryz.pinned.checked.prog.recurses 4)) = true := by kernel_rfl
theorem fu12 : ((Rows.regionUnquotesRow.named == Tryz.pinned.checked.prog.varsNamed 4)) = true := by kernel_rfl
theorem fu13 : ((Rows.regionUnquotesRow.maps == (Tryz.f4.params.toList ++ Rows.regionUnquotesSpec.plain.varTypes Tryz.pinned.checked.prog).any (Tryz.pinned.checked.prog.mapsRec ·))) = true := by kernel_rfl
theorem fu14 : ((Rows.regionUnquotesRow.ifaces == (Tryz.f4.params.toList ++ Rows.regionUnquotesSpec.plain.varTypes Tryz.pinned.checked.prog).any (Tryz.pinned.checked.prog.ifacesRec ·))) = true := by kernel_rfl
theorem fu15 : ((Rows.regionUnquotesRow.mapsOut == Tryz.pinned.checked.prog.mapsAmong Tryz.f4.resultTypes.toList)) = true := by kernel_rfl
theorem fu16 : ((Rows.regionUnquotesRow.loops == (Tryz.f4.params.toList ++ Rows.regionUnquotesSpec.plain.varTypes Tryz.pinned.checked.prog).any (Tryz.pinned.checked.prog.loopsFrom ·))) = true := by kernel_rfl
theorem fu17 : ((Rows.regionUnquotesRow.wideKeys == (Tryz.f4.params.toList ++ Rows.regionUnquotesSpec.plain.varTypes Tryz.pinned.checked.prog ++ Tryz.f4.resultTypes.toList).any (Tryz.pinned.checked.prog.wideKeysFrom ·))) = true := by kernel_rfl
theorem fu18 : (Rows.regionUnquotesSpec.vars.all (Tryz.pinned.checked.prog.varReadable ·)) = true := by kernel_rfl
theorem fu19 : (Tryz.f4.resultTypes.all (fun t => Tryz.pinned.checked.prog.readableRec t && decide (t < Tryz.pinned.checked.prog.types.size))) = true := by kernel_rfl
theorem fu20 : ((Rows.regionUnquotesRow.ifacesOut == Tryz.f4.resultTypes.toList.any (Tryz.pinned.checked.prog.ifacesRec ·))) = true := by kernel_rfl
theorem fu21 : ((Rows.regionUnquotesRow.loopsOut == Tryz.f4.resultTypes.toList.any (Tryz.pinned.checked.prog.loopsFrom ·))) = true := by kernel_rfl
theorem fu22 : ((Rows.regionUnquotesRow.plainKeys == Tryz.pinned.checked.prog.plainKeys)) = true := by kernel_rfl
theorem fu23 : (Rows.regionUnquotesRow.shortTexts.isNone) = true := by kernel_rfl
theorem fu24 : (Tryz.pinned.checked.prog.stopsHeard) = true := by kernel_rfl
theorem fu25 : (Tryz.pinned.checked.prog.mayEnter) = true := by kernel_rfl
theorem fu26 : ((Rows.regionUnquotesRow.lifted == Tryz.pinned.checked.prog.liftsFinal)) = true := by kernel_rfl
theorem fu27 : ((Tryz.pinned.checked.prog.make == some Rows.regionUnquotesRow.make)) = true := by kernel_rfl
theorem fu28 : ((Rows.regionUnquotesRow.kinds == (if Rows.regionUnquotesRow.domain.isEmpty then [] else Tryz.f4.params.toList.map fun t => match Tryz.pinned.checked.prog.underlying t with | some (.int k) => some k | _ => none))) = true := by kernel_rfl
theorem fu29 : ((Rows.regionUnquotesRow.pinned == Rows.regionUnquotesRow.pinnedBy)) = true := by kernel_rfl
theorem fu30 : ((Rows.regionUnquotesRow.veiled == (Tryz.f4.params.toList ++ Rows.regionUnquotesSpec.plain.varTypes Tryz.pinned.checked.prog ++ Tryz.f4.resultTypes.toList).any (Tryz.pinned.checked.prog.veiledRec ·))) = true := by kernel_rfl
theorem fu31 : (Rows.regionUnquotesRow.veiledFits Tryz.pinned.checked.prog Tryz.f4.params.toList (Tryz.f4.params.toList ++ Rows.regionUnquotesSpec.plain.varTypes Tryz.pinned.checked.prog ++ Tryz.f4.resultTypes.toList)) = true := by kernel_rfl
set_option maxRecDepth 100000 in
theorem fujoined : joinedFacts Tryz.pinned.checked.prog 4 Tryz.f4 Rows.regionUnquotesSpec Rows.regionUnquotesRow = true := by
  unfold joinedFacts
  exact (fuand (fuand (fuand (fuand (fuand (fuand (fuand (fuand (fuand (fuand (fuand (fuand (fuand (fuand (fuand (fuand (fuand (fuand (fuand (fuand (fuand (fuand (fuand (fuand (fuand (fuand (fuand (fuand (fuand (fuand (fuand fu0 fu1) fu2) fu3) fu4) fu5) fu6) fu7) fu8) fu9) fu10) fu11) fu12) fu13) fu14) fu15) fu16) fu17) fu18) fu19) fu20) fu21) fu22) fu23) fu24) fu25) fu26) fu27) fu28) fu29) fu30) fu31)
end Go.Proofs.YtdjhicbhegaenaaGreatDoor.Quo
