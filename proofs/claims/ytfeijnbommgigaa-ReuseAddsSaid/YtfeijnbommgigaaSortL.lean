/- slices.SortFunc of this program, at records and at values. -/
import Derived.Test.YtfeijnbommgigaaLays
import Derived.Test.YtfeijnbommgigaaMeetR2
namespace Go.Proofs.Ytfeijnbommgigaa.Abs
open Go

theorem cmpR_at (x y : Rec) : cmpR_e [.val tRecord x, .val tRecord y] = some (twoR x y, .val tInt (cmpRF x y)) := by kernel_rfl
theorem rCmp_at (x y : Val) : rCmp_e [.val tVal x, .val tVal y] = some (true, .val tInt (rCmpF x y)) := by kernel_rfl

theorem srtR_k (hc : EntOk Try.prog 43 cmpR_e) : HEntOk Try.prog 42 srtR_h :=
  sortE_ok rfl (by kernel_rfl) (by decide) ⟨Try.f42, Try.func42, by kernel_rfl, by kernel_rfl⟩
    (fun enc hk h1 cf hO g cb blk off cap d w eg hcmp hH hb hs => AnyQ.slices_SortFunc Try.laysR _ Try.isAgg57 Try.sizeOf57 enc hk h1 cf hO g cb blk off cap d w eg hcmp hH hb hs)
    (fun p cap fv w => AnyF.slices_SortFunc_none Try.laysR p cap fv w) cmpR_total
    (fun x y hx hy => meets_of_ent hc (xs := [⟨_, x⟩, ⟨_, y⟩]) ((cmpR_at x y).trans (by rw [twoR_of hx hy])))

theorem srtV_k (hc : EntOk Try.prog 18 rCmp_e) : HEntOk Try.prog 65 srtV_h :=
  sortE_ok rfl (by kernel_rfl) (by decide) ⟨Try.f65, Try.func65, by kernel_rfl, by kernel_rfl⟩
    (fun enc hk h1 cf hO g cb blk off cap d w eg hcmp hH hb hs => AnyQ.slices_SortFunc Try.laysV _ Try.isAgg31 Try.sizeOf31 enc hk h1 cf hO g cb blk off cap d w eg hcmp hH hb hs)
    (fun p cap fv w => AnyF.slices_SortFunc_none Try.laysV p cap fv w) rCmp_total
    (fun x y _ _ => meets_of_ent hc (xs := [⟨_, x⟩, ⟨_, y⟩]) (rCmp_at x y))
end Go.Proofs.Ytfeijnbommgigaa.Abs
