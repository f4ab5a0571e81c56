/- Closed runs of this seat: the runs, part 7. -/
import Derived.Test.YtdjhicbhegaenaaGreatDoorRunA
namespace Go.Proofs.YtdjhicbhegaenaaGreatDoor.Clo
open Go Go.RowKit
theorem e60_10679_ok : EntOk Tryz.prog gl (tbCons e88_11201 noTb) 1000 100 e60_10679 := by
  intro r
  kernel_rfl
theorem e60_14228_ok : EntOk Tryz.prog gl (tbCons e88_14750 noTb) 1000 100 e60_14228 := by
  intro r
  kernel_rfl
end Go.Proofs.YtdjhicbhegaenaaGreatDoor.Clo
