/- The statement 'CommuteWritesSaid': for every input the law returns true and the input reads as it did. No condition. -/
import Derived.Test.YtlipfgaambiklaaChain
import Derived.Test.YtlipfgaambiklaaRows
namespace Go.Proofs.Ytlipfgaambiklaa.Abs
open Go Go.ChangeShapes Go.WideShapes Go.ChangeAt Go.RowKit

theorem commuteWrites_m (xs : List ((t : Ty) × t.den)) (h : xs.map (·.1) = [(.slice tCell), (.slice tCell)]) : MeetsD Try.prog 4 xs (.val .bool true) := by
  match xs, h with
  | [⟨_, x0⟩, ⟨_, x1⟩], rfl => exact meets_of_ent lawWrites_x (xs := [⟨_, x0⟩, ⟨_, x1⟩]) rfl

theorem commuteWrites_k : LawOk Try.checked tabL.tab 4 Try.f4 [(.slice tCell), (.slice tCell)] 4 :=
  ⟨own_k, by kernel_rfl, Try.func4, laid_k, by kernel_rfl, by kernel_rfl, by kernel_rfl, read_of (by kernel_rfl), tab_good, tabL_ok⟩

theorem commuteWrites_spec (H : Type) (ds : List (DataW H)) (h : ds.length = 2) : Rows.commuteWritesSpec.fn H ds = { results := [.lit (.bool true)], args := ds } := by
  match ds, h with
  | [x0, x1], _ => rfl

set_option maxRecDepth 100000 in
theorem commuteWrites_holds : Rows.CommuteWritesSaid :=
  OpenClaim.holds_of_wide 4 Try.f4 rfl rfl rfl rfl rfl rfl rfl ⟨rfl, rfl, rfl, rfl, rfl⟩ rfl rfl rfl rfl rfl (by kernel_rfl) Try.func4 (by kernel_rfl)
    (of_decide_eq_true (by kernel_rfl)) (by unfold Func.isWrapper; first | (rw [if_pos (by decide +kernel)]; kernel_rfl) | (rw [if_neg (by decide +kernel)]; exact ⟨rfl, rfl⟩))
    (fun _ started _ enc _ => law_lifted commuteWrites_k rfl commuteWrites_spec (fun xs h _ => commuteWrites_m xs h) started
      (ChangeSpec.witness6 (enc := enc) (C := Try.checked) false ⟨#[], #[.slice none 0 0, .slice none 0 0], []⟩ 8 (by kernel_rfl) (by kernel_rfl) (by kernel_rfl) (by kernel_rfl)))
#print axioms commuteWrites_holds
end Go.Proofs.Ytlipfgaambiklaa.Abs
