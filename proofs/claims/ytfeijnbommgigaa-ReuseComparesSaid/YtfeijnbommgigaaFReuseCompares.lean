/- The statement 'ReuseComparesSaid': for every input the law returns true and the input reads as it did. No condition. -/
import Derived.Test.YtfeijnbommgigaaChain
import Derived.Test.YtfeijnbommgigaaRows
namespace Go.Proofs.Ytfeijnbommgigaa.Abs
open Go Go.ChangeShapes Go.WideShapes Go.ChangeAt Go.RowKit

theorem reuseCompares_m (xs : List ((t : Ty) × t.den)) (h : xs.map (·.1) = [tVal, tVal, tVal]) : MeetsD Try.prog 5 xs (.val .bool true) := by
  match xs, h with
  | [⟨_, x0⟩, ⟨_, x1⟩, ⟨_, x2⟩], rfl => exact meets_of_ent lawCompares_x (xs := [⟨_, x0⟩, ⟨_, x1⟩, ⟨_, x2⟩]) rfl

theorem reuseCompares_k : LawOk Try.checked tabL.tab 5 Try.f5 [tVal, tVal, tVal] 4 :=
  ⟨own_k, by kernel_rfl, Try.func5, laid_k, by kernel_rfl, by kernel_rfl, by kernel_rfl, read_of (by kernel_rfl), tab_good, tabL_ok⟩

theorem reuseCompares_spec (H : Type) (ds : List (DataW H)) (h : ds.length = 3) : Rows.reuseComparesSpec.fn H ds = { results := [.lit (.bool true)], args := ds } := by
  match ds, h with
  | [x0, x1, x2], _ => rfl

set_option maxRecDepth 100000 in
theorem reuseCompares_holds : Rows.ReuseComparesSaid :=
  OpenClaim.holds_of_wide 5 Try.f5 rfl rfl rfl rfl rfl rfl rfl ⟨rfl, rfl, rfl, rfl, rfl⟩ rfl rfl rfl rfl rfl (by kernel_rfl) Try.func5 (by kernel_rfl)
    (of_decide_eq_true (by kernel_rfl)) (by unfold Func.isWrapper; first | (rw [if_pos (by decide +kernel)]; kernel_rfl) | (rw [if_neg (by decide +kernel)]; exact ⟨rfl, rfl⟩))
    (fun _ started _ enc _ => law_lifted reuseCompares_k rfl reuseCompares_spec (fun xs h _ => reuseCompares_m xs h) started
      (ChangeSpec.witness6 (enc := enc) (C := Try.checked) false ⟨#[], #[.agg #[.int .i64 0, .bool false, .string ⟨#[]⟩, .int .i64 0], .agg #[.int .i64 0, .bool false, .string ⟨#[]⟩, .int .i64 0], .agg #[.int .i64 0, .bool false, .string ⟨#[]⟩, .int .i64 0]], []⟩ 8 (by kernel_rfl) (by kernel_rfl) (by kernel_rfl) (by kernel_rfl)))
#print axioms reuseCompares_holds
end Go.Proofs.Ytfeijnbommgigaa.Abs
