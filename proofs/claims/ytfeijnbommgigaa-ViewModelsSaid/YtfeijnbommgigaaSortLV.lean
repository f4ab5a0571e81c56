/- slices.SortFunc of this program, at what stands in a place. -/
import Derived.Test.YtfeijnbommgigaaLays
import Derived.Test.YtfeijnbommgigaaMeetV5
namespace Go.Proofs.Ytfeijnbommgigaa.Abs
open Go

theorem cmpSt_at (x y : Stg) : cmpSt_e [.val tStanding x, .val tStanding y] = some (true, .val tInt (cmpStF x y)) := by kernel_rfl

theorem srtS_k (hc : EntOk Try.prog 68 cmpSt_e) : HEntOk Try.prog 67 srtS_h :=
  sortE_ok rfl (by kernel_rfl) (by decide) ⟨Try.f67, Try.func67, by kernel_rfl, by kernel_rfl⟩
    (fun enc hk h1 cf hO g cb blk off cap d w eg hcmp hH hb hs => AnyQ.slices_SortFunc Try.laysS _ Try.isAgg101 Try.sizeOf101 enc hk h1 cf hO g cb blk off cap d w eg hcmp hH hb hs)
    (fun p cap fv w => AnyF.slices_SortFunc_none Try.laysS p cap fv w) cmpSt_total
    (fun x y _ _ => meets_of_ent hc (xs := [⟨_, x⟩, ⟨_, y⟩]) (cmpSt_at x y))
end Go.Proofs.Ytfeijnbommgigaa.Abs
