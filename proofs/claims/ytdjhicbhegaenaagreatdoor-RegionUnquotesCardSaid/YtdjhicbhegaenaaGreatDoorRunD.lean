/- Closed runs of this seat: the runs, part 3. -/
import Derived.Test.YtdjhicbhegaenaaGreatDoorRunA
namespace Go.Proofs.YtdjhicbhegaenaaGreatDoor.Clo
open Go Go.RowKit
theorem e88_11201_ok : EntOk Tryz.prog gl noTb 1000 100 e88_11201 := by
  intro r
  kernel_rfl
theorem e88_14750_ok : EntOk Tryz.prog gl noTb 1000 100 e88_14750 := by
  intro r
  kernel_rfl
end Go.Proofs.YtdjhicbhegaenaaGreatDoor.Clo
