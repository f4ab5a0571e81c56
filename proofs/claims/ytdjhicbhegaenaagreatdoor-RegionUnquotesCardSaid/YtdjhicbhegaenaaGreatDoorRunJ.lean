/- Closed runs of this seat: the runs, part 9. -/
import Derived.Test.YtdjhicbhegaenaaGreatDoorRunA
namespace Go.Proofs.YtdjhicbhegaenaaGreatDoor.Clo
open Go Go.RowKit
theorem e14_4152_ok : EntOk Tryz.prog gl (tbCons e57_7422 (tbCons e57_5020 noTb)) 1000 100 e14_4152 := by
  intro r
  kernel_rfl
theorem e15_9823_ok : EntOk Tryz.prog gl (tbCons e60_14228 (tbCons e60_10679 noTb)) 1000 100 e15_9823 := by
  intro r
  kernel_rfl
end Go.Proofs.YtdjhicbhegaenaaGreatDoor.Clo
