/- The statement 'CommuteInvertsSaid': for every input the law returns true and the input reads as it did. No condition. -/
import Derived.Test.YtlipfgaambiklaaChain
import Derived.Test.YtlipfgaambiklaaRows
namespace Go.Proofs.Ytlipfgaambiklaa.Abs
open Go Go.ChangeShapes Go.WideShapes Go.ChangeAt Go.RowKit

theorem commuteInverts_m (xs : List ((t : Ty) × t.den)) (h : xs.map (·.1) = [tModel, (.slice tCell)]) : MeetsD Try.prog 7 xs (.val .bool true) := by
  match xs, h with
  | [⟨_, x0⟩, ⟨_, x1⟩], rfl => exact meets_of_ent lawInverts_x (xs := [⟨_, x0⟩, ⟨_, x1⟩]) rfl

theorem commuteInverts_k : LawOk Try.checked tabL.tab 7 Try.f7 [tModel, (.slice tCell)] 4 :=
  ⟨own_k, by kernel_rfl, Try.func7, laid_k, by kernel_rfl, by kernel_rfl, by kernel_rfl, read_of (by kernel_rfl), tab_good, tabL_ok⟩

theorem commuteInverts_spec (H : Type) (ds : List (DataW H)) (h : ds.length = 2) : Rows.commuteInvertsSpec.fn H ds = { results := [.lit (.bool true)], args := ds } := by
  match ds, h with
  | [x0, x1], _ => rfl

set_option maxRecDepth 100000 in
theorem commuteInverts_holds : Rows.CommuteInvertsSaid :=
  OpenClaim.holds_of_wide 7 Try.f7 rfl rfl rfl rfl rfl rfl rfl ⟨rfl, rfl, rfl, rfl, rfl⟩ rfl rfl rfl rfl rfl (by kernel_rfl) Try.func7 (by kernel_rfl)
    (of_decide_eq_true (by kernel_rfl)) (by unfold Func.isWrapper; first | (rw [if_pos (by decide +kernel)]; kernel_rfl) | (rw [if_neg (by decide +kernel)]; exact ⟨rfl, rfl⟩))
    (fun _ started _ enc _ => law_lifted commuteInverts_k rfl commuteInverts_spec (fun xs h _ => commuteInverts_m xs h) started
      (ChangeSpec.witness6 (enc := enc) (C := Try.checked) false ⟨#[], #[.agg #[.slice none 0 0], .slice none 0 0], []⟩ 8 (by kernel_rfl) (by kernel_rfl) (by kernel_rfl) (by kernel_rfl)))
#print axioms commuteInverts_holds
end Go.Proofs.Ytlipfgaambiklaa.Abs
