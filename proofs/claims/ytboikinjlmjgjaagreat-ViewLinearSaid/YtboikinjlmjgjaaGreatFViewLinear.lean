/- The statement 'ViewLinearSaid': for every input the law returns true and the input reads as it did. No condition. -/
import Derived.Test.YtboikinjlmjgjaaGreatLawA
import Derived.Test.YtboikinjlmjgjaaGreatAbsX
import Derived.Test.YtboikinjlmjgjaaGreatRows
namespace Go.Proofs.YtboikinjlmjgjaaGreat.Abs
open Go Go.ChangeShapes Go.WideShapes Go.ChangeAt Go.RowKit
theorem UY : ∀ t τ, Ke.tab.ty t = some τ → τ.good = true := fun t τ h => List.all_eq_true.1 (by kernel_rfl : (Ke.ty.all fun p => p.2.good) = true) (t, τ) (fM h)
theorem ah4 : ownKnob Tryz.prog.godebug = none := by kernel_rfl
theorem aeD : laidOutB Tryz.prog = true := by kernel_rfl
theorem Gn (xs : List ((t : Ty) × t.den)) (h : xs.map (·.1) = [aa, (.slice aQ)]) : gw Tryz.prog 3 xs (.val .bool true) := by
 match xs, h with
 | [⟨_, x0⟩, ⟨_, x1⟩], rfl =>
  obtain ⟨r, e, hr⟩ := DU x0 x1
  have he : xY (([⟨aa, x0⟩, ⟨(.slice aQ), x1⟩] : List ((t : Ty) × t.den)).map fun d => .val d.1 d.2) = some ((d9 x0 x1).isSome, cU ((d9 x0 x1).getD (zero .bool))) := by kernel_rfl
  rw [e, hr] at he
  exact uP LB he
theorem Gp : LawOk Tryz.checked Ke.tab 3 Tryz.f3 [aa, (.slice aQ)] 4 :=
 ⟨ah4, by kernel_rfl, Tryz.func3, aeD, by kernel_rfl, by kernel_rfl, by kernel_rfl, aal (by kernel_rfl), UY, Gt⟩
theorem yH (H : Type) (ds : List (DataW H)) (h : ds.length = 2) : Rows.viewLinearSpec.fn H ds = { results := [.lit (.bool true)], args := ds } := by
 match ds, h with
 | [x0, x1], _ => rfl
set_option maxRecDepth 100000 in
theorem viewLinear_holds : Rows.ViewLinearSaid :=
 OpenClaim.holds_of_wide 3 Tryz.f3 rfl rfl rfl rfl rfl rfl rfl ⟨rfl, rfl, rfl, rfl, rfl⟩ rfl rfl rfl rfl rfl (by kernel_rfl) Tryz.func3 (by kernel_rfl)
  (of_decide_eq_true (by kernel_rfl)) (by unfold Func.isWrapper; first | (rw [if_pos (by decide +kernel)]; kernel_rfl) | (rw [if_neg (by decide +kernel)]; exact ⟨rfl, rfl⟩))
  (fun _ started _ enc _ => Oy Gp rfl yH (fun xs h _ => Gn xs h) started
   (ChangeSpec.witness6 (enc := enc) (C := Tryz.checked) false ⟨#[], #[.int .i64 0, .slice none 0 0], []⟩ 8 (by kernel_rfl) (by kernel_rfl) (by kernel_rfl) (by kernel_rfl)))
#print axioms viewLinear_holds
end Go.Proofs.YtboikinjlmjgjaaGreat.Abs
