/- The statement 'CommuteModelsSaid': for every input the law returns true and the input reads as it did. No condition. -/
import Derived.Test.YtlipfgaambiklaaChain
import Derived.Test.YtlipfgaambiklaaRows
namespace Go.Proofs.Ytlipfgaambiklaa.Abs
open Go Go.ChangeShapes Go.WideShapes Go.ChangeAt Go.RowKit

theorem commuteModels_m (xs : List ((t : Ty) × t.den)) (h : xs.map (·.1) = [tModel, (.slice tCell)]) : MeetsD Try.prog 3 xs (.val .bool true) := by
  match xs, h with
  | [⟨_, x0⟩, ⟨_, x1⟩], rfl => exact meets_of_ent lawModels_x (xs := [⟨_, x0⟩, ⟨_, x1⟩]) rfl

theorem commuteModels_k : LawOk Try.checked tabL.tab 3 Try.f3 [tModel, (.slice tCell)] 4 :=
  ⟨own_k, by kernel_rfl, Try.func3, laid_k, by kernel_rfl, by kernel_rfl, by kernel_rfl, read_of (by kernel_rfl), tab_good, tabL_ok⟩

theorem commuteModels_spec (H : Type) (ds : List (DataW H)) (h : ds.length = 2) : Rows.commuteModelsSpec.fn H ds = { results := [.lit (.bool true)], args := ds } := by
  match ds, h with
  | [x0, x1], _ => rfl

set_option maxRecDepth 100000 in
theorem commuteModels_holds : Rows.CommuteModelsSaid :=
  OpenClaim.holds_of_wide 3 Try.f3 rfl rfl rfl rfl rfl rfl rfl ⟨rfl, rfl, rfl, rfl, rfl⟩ rfl rfl rfl rfl rfl (by kernel_rfl) Try.func3 (by kernel_rfl)
    (of_decide_eq_true (by kernel_rfl)) (by unfold Func.isWrapper; first | (rw [if_pos (by decide +kernel)]; kernel_rfl) | (rw [if_neg (by decide +kernel)]; exact ⟨rfl, rfl⟩))
    (fun _ started _ enc _ => law_lifted commuteModels_k rfl commuteModels_spec (fun xs h _ => commuteModels_m xs h) started
      (ChangeSpec.witness6 (enc := enc) (C := Try.checked) false ⟨#[], #[.agg #[.slice none 0 0], .slice none 0 0], []⟩ 8 (by kernel_rfl) (by kernel_rfl) (by kernel_rfl) (by kernel_rfl)))
#print axioms commuteModels_holds
end Go.Proofs.Ytlipfgaambiklaa.Abs
