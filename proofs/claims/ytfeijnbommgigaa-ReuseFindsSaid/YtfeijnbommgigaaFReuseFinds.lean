/- The statement 'ReuseFindsSaid': for every input the law returns true and the input reads as it did. No condition. -/
import Derived.Test.YtfeijnbommgigaaChain
import Derived.Test.YtfeijnbommgigaaRows
namespace Go.Proofs.Ytfeijnbommgigaa.Abs
open Go Go.ChangeShapes Go.WideShapes Go.ChangeAt Go.RowKit

theorem reuseFinds_m (xs : List ((t : Ty) × t.den)) (h : xs.map (·.1) = [(.slice tDraw), tInt, tInt, tInt, tInt, tInt]) : MeetsD Try.prog 7 xs (.val .bool true) := by
  match xs, h with
  | [⟨_, x0⟩, ⟨_, x1⟩, ⟨_, x2⟩, ⟨_, x3⟩, ⟨_, x4⟩, ⟨_, x5⟩], rfl => exact meets_of_ent lawFinds_x (xs := [⟨_, x0⟩, ⟨_, x1⟩, ⟨_, x2⟩, ⟨_, x3⟩, ⟨_, x4⟩, ⟨_, x5⟩]) rfl

theorem reuseFinds_k : LawOk Try.checked tabL.tab 7 Try.f7 [(.slice tDraw), tInt, tInt, tInt, tInt, tInt] 4 :=
  ⟨own_k, by kernel_rfl, Try.func7, laid_k, by kernel_rfl, by kernel_rfl, by kernel_rfl, read_of (by kernel_rfl), tab_good, tabL_ok⟩

theorem reuseFinds_spec (H : Type) (ds : List (DataW H)) (h : ds.length = 6) : Rows.reuseFindsSpec.fn H ds = { results := [.lit (.bool true)], args := ds } := by
  match ds, h with
  | [x0, x1, x2, x3, x4, x5], _ => rfl

set_option maxRecDepth 100000 in
theorem reuseFinds_holds : Rows.ReuseFindsSaid :=
  OpenClaim.holds_of_wide 7 Try.f7 rfl rfl rfl rfl rfl rfl rfl ⟨rfl, rfl, rfl, rfl, rfl⟩ rfl rfl rfl rfl rfl (by kernel_rfl) Try.func7 (by kernel_rfl)
    (of_decide_eq_true (by kernel_rfl)) (by unfold Func.isWrapper; first | (rw [if_pos (by decide +kernel)]; kernel_rfl) | (rw [if_neg (by decide +kernel)]; exact ⟨rfl, rfl⟩))
    (fun _ started _ enc _ => law_lifted reuseFinds_k rfl reuseFinds_spec (fun xs h _ => reuseFinds_m xs h) started
      (ChangeSpec.witness6 (enc := enc) (C := Try.checked) false ⟨#[], #[.slice none 0 0, .int .i64 0, .int .i64 0, .int .i64 0, .int .i64 0, .int .i64 0], []⟩ 8 (by kernel_rfl) (by kernel_rfl) (by kernel_rfl) (by kernel_rfl)))
#print axioms reuseFinds_holds
end Go.Proofs.Ytfeijnbommgigaa.Abs
