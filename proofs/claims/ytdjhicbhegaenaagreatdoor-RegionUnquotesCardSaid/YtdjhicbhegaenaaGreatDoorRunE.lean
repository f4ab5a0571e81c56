/- Closed runs of this seat: the runs, part 4. -/
import Derived.Test.YtdjhicbhegaenaaGreatDoorRunA
namespace Go.Proofs.YtdjhicbhegaenaaGreatDoor.Clo
open Go Go.RowKit
theorem e88_20672_ok : EntOk Tryz.prog gl noTb 1000 100 e88_20672 := by
  intro r
  kernel_rfl
theorem e88_24221_ok : EntOk Tryz.prog gl noTb 1000 100 e88_24221 := by
  intro r
  kernel_rfl
end Go.Proofs.YtdjhicbhegaenaaGreatDoor.Clo
