/- Closed runs of this seat: the runs, part 2. -/
import Derived.Test.YtdjhicbhegaenaaGreatDoorRunA
namespace Go.Proofs.YtdjhicbhegaenaaGreatDoor.Clo
open Go Go.RowKit
theorem e88_5021_ok : EntOk Tryz.prog gl noTb 1000 100 e88_5021 := by
  intro r
  kernel_rfl
theorem e88_7423_ok : EntOk Tryz.prog gl noTb 1000 100 e88_7423 := by
  intro r
  kernel_rfl
end Go.Proofs.YtdjhicbhegaenaaGreatDoor.Clo
