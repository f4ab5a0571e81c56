/- The statement 'ViewRegionsSaid': for every input the law returns true and the input reads as it did. No condition. -/
import Derived.Test.YtfeijnbommgigaaChainV
import Derived.Test.YtfeijnbommgigaaRows
namespace Go.Proofs.Ytfeijnbommgigaa.Abs
open Go Go.ChangeShapes Go.WideShapes Go.ChangeAt Go.RowKit

theorem viewRegions_m (xs : List ((t : Ty) × t.den)) (h : xs.map (·.1) = [(.slice tMark)]) : MeetsD Try.prog 3 xs (.val .bool true) := by
  match xs, h with
  | [⟨_, x0⟩], rfl => exact meets_of_ent lawRegions_x (xs := [⟨_, x0⟩]) rfl

theorem viewRegions_k : LawOk Try.checked tabL.tab 3 Try.f3 [(.slice tMark)] 4 :=
  ⟨own_k, by kernel_rfl, Try.func3, laid_k, by kernel_rfl, by kernel_rfl, by kernel_rfl, read_of (by kernel_rfl), tab_good, tabL_ok⟩

theorem viewRegions_spec (H : Type) (ds : List (DataW H)) (h : ds.length = 1) : Rows.viewRegionsSpec.fn H ds = { results := [.lit (.bool true)], args := ds } := by
  match ds, h with
  | [x0], _ => rfl

set_option maxRecDepth 100000 in
theorem viewRegions_holds : Rows.ViewRegionsSaid :=
  OpenClaim.holds_of_wide 3 Try.f3 rfl rfl rfl rfl rfl rfl rfl ⟨rfl, rfl, rfl, rfl, rfl⟩ rfl rfl rfl rfl rfl (by kernel_rfl) Try.func3 (by kernel_rfl)
    (of_decide_eq_true (by kernel_rfl)) (by unfold Func.isWrapper; first | (rw [if_pos (by decide +kernel)]; kernel_rfl) | (rw [if_neg (by decide +kernel)]; exact ⟨rfl, rfl⟩))
    (fun _ started _ enc _ => law_lifted viewRegions_k rfl viewRegions_spec (fun xs h _ => viewRegions_m xs h) started
      (ChangeSpec.witness6 (enc := enc) (C := Try.checked) false ⟨#[], #[.slice none 0 0], []⟩ 8 (by kernel_rfl) (by kernel_rfl) (by kernel_rfl) (by kernel_rfl)))
#print axioms viewRegions_holds
end Go.Proofs.Ytfeijnbommgigaa.Abs
