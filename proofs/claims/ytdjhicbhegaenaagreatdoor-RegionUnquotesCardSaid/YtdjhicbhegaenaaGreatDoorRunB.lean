/- Closed runs of this seat: the runs, part 1. -/
import Derived.Test.YtdjhicbhegaenaaGreatDoorRunA
namespace Go.Proofs.YtdjhicbhegaenaaGreatDoor.Clo
open Go Go.RowKit
theorem e11_0_ok : EntOk Tryz.prog gl noTb 1000 100 e11_0 := by
  intro r
  kernel_rfl
theorem e12_1982_ok : EntOk Tryz.prog gl noTb 1000 100 e12_1982 := by
  intro r
  kernel_rfl
end Go.Proofs.YtdjhicbhegaenaaGreatDoor.Clo
