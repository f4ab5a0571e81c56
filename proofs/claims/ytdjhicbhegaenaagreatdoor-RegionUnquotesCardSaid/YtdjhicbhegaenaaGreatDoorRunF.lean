/- Closed runs of this seat: the runs, part 5. -/
import Derived.Test.YtdjhicbhegaenaaGreatDoorRunA
namespace Go.Proofs.YtdjhicbhegaenaaGreatDoor.Clo
open Go Go.RowKit
theorem e88_27265_ok : EntOk Tryz.prog gl noTb 1000 100 e88_27265 := by
  intro r
  kernel_rfl
theorem e88_29667_ok : EntOk Tryz.prog gl noTb 1000 100 e88_29667 := by
  intro r
  kernel_rfl
end Go.Proofs.YtdjhicbhegaenaaGreatDoor.Clo
