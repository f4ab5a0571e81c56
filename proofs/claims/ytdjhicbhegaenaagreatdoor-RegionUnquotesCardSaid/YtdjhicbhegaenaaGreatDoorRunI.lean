/- Closed runs of this seat: the runs, part 8. -/
import Derived.Test.YtdjhicbhegaenaaGreatDoorRunA
namespace Go.Proofs.YtdjhicbhegaenaaGreatDoor.Clo
open Go Go.RowKit
theorem e60_20150_ok : EntOk Tryz.prog gl (tbCons e88_20672 noTb) 1000 100 e60_20150 := by
  intro r
  kernel_rfl
theorem e60_23699_ok : EntOk Tryz.prog gl (tbCons e88_24221 noTb) 1000 100 e60_23699 := by
  intro r
  kernel_rfl
end Go.Proofs.YtdjhicbhegaenaaGreatDoor.Clo
