/- The statement 'ReuseAddsSaid': for every input the law returns true and the input reads as it did. No condition. -/
import Derived.Test.YtfeijnbommgigaaChain
import Derived.Test.YtfeijnbommgigaaRows
namespace Go.Proofs.Ytfeijnbommgigaa.Abs
open Go Go.ChangeShapes Go.WideShapes Go.ChangeAt Go.RowKit

theorem reuseAdds_m (xs : List ((t : Ty) × t.den)) (h : xs.map (·.1) = [(.slice tDraw), (.slice tDraw), (.slice tDraw)]) : MeetsD Try.prog 6 xs (.val .bool true) := by
  match xs, h with
  | [⟨_, x0⟩, ⟨_, x1⟩, ⟨_, x2⟩], rfl => exact meets_of_ent lawAdds_x (xs := [⟨_, x0⟩, ⟨_, x1⟩, ⟨_, x2⟩]) rfl

theorem reuseAdds_k : LawOk Try.checked tabL.tab 6 Try.f6 [(.slice tDraw), (.slice tDraw), (.slice tDraw)] 4 :=
  ⟨own_k, by kernel_rfl, Try.func6, laid_k, by kernel_rfl, by kernel_rfl, by kernel_rfl, read_of (by kernel_rfl), tab_good, tabL_ok⟩

theorem reuseAdds_spec (H : Type) (ds : List (DataW H)) (h : ds.length = 3) : Rows.reuseAddsSpec.fn H ds = { results := [.lit (.bool true)], args := ds } := by
  match ds, h with
  | [x0, x1, x2], _ => rfl

set_option maxRecDepth 100000 in
theorem reuseAdds_holds : Rows.ReuseAddsSaid :=
  OpenClaim.holds_of_wide 6 Try.f6 rfl rfl rfl rfl rfl rfl rfl ⟨rfl, rfl, rfl, rfl, rfl⟩ rfl rfl rfl rfl rfl (by kernel_rfl) Try.func6 (by kernel_rfl)
    (of_decide_eq_true (by kernel_rfl)) (by unfold Func.isWrapper; first | (rw [if_pos (by decide +kernel)]; kernel_rfl) | (rw [if_neg (by decide +kernel)]; exact ⟨rfl, rfl⟩))
    (fun _ started _ enc _ => law_lifted reuseAdds_k rfl reuseAdds_spec (fun xs h _ => reuseAdds_m xs h) started
      (ChangeSpec.witness6 (enc := enc) (C := Try.checked) false ⟨#[], #[.slice none 0 0, .slice none 0 0, .slice none 0 0], []⟩ 8 (by kernel_rfl) (by kernel_rfl) (by kernel_rfl) (by kernel_rfl)))
#print axioms reuseAdds_holds
end Go.Proofs.Ytfeijnbommgigaa.Abs
