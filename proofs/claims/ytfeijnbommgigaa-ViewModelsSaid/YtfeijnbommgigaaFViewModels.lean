/- The statement 'ViewModelsSaid': for every input the law returns true and the input reads as it did. No condition. -/
import Derived.Test.YtfeijnbommgigaaChainV
import Derived.Test.YtfeijnbommgigaaRows
namespace Go.Proofs.Ytfeijnbommgigaa.Abs
open Go Go.ChangeShapes Go.WideShapes Go.ChangeAt Go.RowKit

theorem viewModels_m (xs : List ((t : Ty) × t.den)) (h : xs.map (·.1) = [(.slice tMark), tInt, tInt, tVal]) : MeetsD Try.prog 4 xs (.val .bool true) := by
  match xs, h with
  | [⟨_, x0⟩, ⟨_, x1⟩, ⟨_, x2⟩, ⟨_, x3⟩], rfl => exact meets_of_ent lawModels_x (xs := [⟨_, x0⟩, ⟨_, x1⟩, ⟨_, x2⟩, ⟨_, x3⟩]) rfl

theorem viewModels_k : LawOk Try.checked tabL.tab 4 Try.f4 [(.slice tMark), tInt, tInt, tVal] 4 :=
  ⟨own_k, by kernel_rfl, Try.func4, laid_k, by kernel_rfl, by kernel_rfl, by kernel_rfl, read_of (by kernel_rfl), tab_good, tabL_ok⟩

theorem viewModels_spec (H : Type) (ds : List (DataW H)) (h : ds.length = 4) : Rows.viewModelsSpec.fn H ds = { results := [.lit (.bool true)], args := ds } := by
  match ds, h with
  | [x0, x1, x2, x3], _ => rfl

set_option maxRecDepth 100000 in
theorem viewModels_holds : Rows.ViewModelsSaid :=
  OpenClaim.holds_of_wide 4 Try.f4 rfl rfl rfl rfl rfl rfl rfl ⟨rfl, rfl, rfl, rfl, rfl⟩ rfl rfl rfl rfl rfl (by kernel_rfl) Try.func4 (by kernel_rfl)
    (of_decide_eq_true (by kernel_rfl)) (by unfold Func.isWrapper; first | (rw [if_pos (by decide +kernel)]; kernel_rfl) | (rw [if_neg (by decide +kernel)]; exact ⟨rfl, rfl⟩))
    (fun _ started _ enc _ => law_lifted viewModels_k rfl viewModels_spec (fun xs h _ => viewModels_m xs h) started
      (ChangeSpec.witness6 (enc := enc) (C := Try.checked) false ⟨#[], #[.slice none 0 0, .int .i64 0, .int .i64 0, .agg #[.int .i64 0, .bool false, .string ⟨#[]⟩, .int .i64 0]], []⟩ 8 (by kernel_rfl) (by kernel_rfl) (by kernel_rfl) (by kernel_rfl)))
#print axioms viewModels_holds
end Go.Proofs.Ytfeijnbommgigaa.Abs
