/- The statement 'RegionUnquotesCardSaid': for every input the law RegionUnquotes returns true, and what it is given reads afterwards as before. The package-level variables that the card lists hold what the program's text lays. -/
import Derived.Test.YtdjhicbhegaenaaGreatDoorQuoF
import Derived.Test.YtdjhicbhegaenaaGreatDoorQuoI
import Derived.Test.YtdjhicbhegaenaaGreatDoorRunL
import Derived.SevenTiedAt
namespace Go.Proofs.YtdjhicbhegaenaaGreatDoor.Quo
open Go Go.Proofs Go.ChangeShapes Go.WideShapes Go.RowKit

theorem awake_ok : Awake := fun w hg => by
  have hm : Tryz.prog.follows .mixedOrders = true := by kernel_rfl
  have h := Clo.awake_run
  generalize hr : Clo.mkR Clo.tbMain (Clo.fiOf Tryz.prog Clo.gl) 1000 100 Clo.noY .nil (.fn 7) [] .leaf .e = r at h
  cases r with
  | no => cases h
  | ok v d n =>
    have ev : v = .pv (.one (.bl true)) := Clo.tvEq_eq h
    subst ev
    obtain ⟨_, hc⟩ := Clo.closedT_sound hm (Clo.tbMain_ok hm) hr w (glOk hg)
    refine hc.mono ?_
    rintro e w' ⟨u, ψ, rfl, hI, hu⟩
    exact ⟨by rw [Clo.rt_bl hu], hI.below⟩

theorem regionUnquotes_row : Rows.RegionUnquotesSaid :=
  OpenClaim.holds_of_wide 4 Tryz.f4 rfl rfl rfl rfl rfl rfl rfl ⟨rfl, rfl, rfl, rfl, rfl⟩ rfl rfl rfl rfl rfl (by kernel_rfl) Tryz.func4 fujoined
    (of_decide_eq_true (by kernel_rfl)) (by unfold Func.isWrapper; first | (rw [if_pos (by decide +kernel)]; kernel_rfl) | (rw [if_neg (by decide +kernel)]; exact ⟨rfl, rfl⟩))
    (fun os started H enc _ => unquotes_lifted awake_ok os started H enc)

theorem k_wf : Rows.regionUnquotesRow.wfByText (OpenSpec.ofChange Rows.regionUnquotesSpec) = true := by kernel_rfl
theorem k_main : Tryz.pinned.checked.prog.mainIs = some (true, "8bb6910643d8edfc703b98e594b27eb1792bf35e2d0f07d68163703d5e7171a2".toList) := by kernel_rfl
theorem k_looks : false = Tryz.pinned.checked.prog.looks [] := by kernel_rfl
theorem k_named : Tryz.pinned.checked.prog.funcNamed Rows.regionUnquotesRow.func = some 4 := by kernel_rfl
theorem k_func : Tryz.pinned.checked.prog.funcs[4]? = some Tryz.f4 := Tryz.func4
theorem k_stand : ([9,9].all fun u => !Tryz.pinned.checked.prog.wantsStandIn u) = true := by kernel_rfl
theorem ng_all : Tryz.pinned.checked.prog.funcs.any Func.goes = false := by kernel_rfl
theorem ng_of {P : Program} (h : P.funcs.any Func.goes = false) (f : FuncId) : P.goes f = false := by
  have h1 : ∀ g : FuncId, ((P.funcs[g]?).any Func.goes) = false := fun g => by
    cases hg : P.funcs[g]? with
    | none => rfl
    | some fn =>
      rw [Array.any_eq_false] at h
      obtain ⟨hi, e⟩ := Array.getElem?_eq_some_iff.1 hg
      have := h g hi
      rw [e] at this
      simpa using this
  have h2 : ((P.closure f).any fun g => (P.funcs[g]?).any Func.goes) = false := List.any_eq_false.2 fun g _ => by rw [h1 g]; simp
  unfold Program.goes
  rw [h2, h, Bool.and_false]
  rfl
theorem k_goes : false = Rows.regionUnquotesRow.goesBy Tryz.pinned.checked.prog := by
  have h : ∀ c : OpenClaim, c.start = .entering → false = c.goesBy Tryz.pinned.checked.prog := fun c hc => by
    unfold OpenClaim.goesBy Program.goesAt Program.goesFrom
    rw [hc]
    cases Tryz.pinned.checked.prog.funcNamed c.func with
    | none => rfl
    | some f => simp [ng_of ng_all f]
  exact h _ rfl
theorem k_fn : ∀ f fn, Tryz.pinned.checked.prog.funcNamed Rows.regionUnquotesRow.func = some f → Tryz.pinned.checked.prog.funcs[f]? = some fn → false = Tryz.pinned.checked.prog.looks [] ∧ ∀ (j : Nat) t, fn.params[j]? = some t → Tryz.pinned.checked.prog.wantsStandIn t = false := by
  intro f fn hf hfn
  obtain rfl : f = 4 := Option.some.inj (k_named.symm.trans hf) |>.symm
  obtain rfl : fn = Tryz.f4 := (Option.some.inj (k_func.symm.trans hfn)).symm
  refine ⟨k_looks, fun j t ht => ?_⟩
  rw [Tryz.params4] at ht
  have hm : t ∈ [9,9] := by simpa using Array.mem_of_getElem? ht
  have := List.all_eq_true.1 k_stand t hm
  generalize Tryz.pinned.checked.prog.wantsStandIn t = b at this ⊢
  cases b with
  | false => rfl
  | true => cases this
theorem regionUnquotes_holds : Rows.RegionUnquotesCardSaid :=
  Claim7.holds_tied_plain_at .later [] [.data, .data, .data, .data, .data, .data] true (true, "8bb6910643d8edfc703b98e594b27eb1792bf35e2d0f07d68163703d5e7171a2") false
    regionUnquotes_row (fun _ h => by cases h) k_wf (fun _ h => by cases h) regionUnquotes_row_tie rfl ⟨rfl, rfl⟩ k_main rfl k_fn k_goes
#print axioms regionUnquotes_holds
end Go.Proofs.YtdjhicbhegaenaaGreatDoor.Quo
