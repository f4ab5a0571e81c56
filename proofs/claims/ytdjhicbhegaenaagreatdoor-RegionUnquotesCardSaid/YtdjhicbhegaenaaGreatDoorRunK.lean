/- Closed runs of this seat: the runs, part 10. -/
import Derived.Test.YtdjhicbhegaenaaGreatDoorRunA
namespace Go.Proofs.YtdjhicbhegaenaaGreatDoor.Clo
open Go Go.RowKit
theorem e17_18643_ok : EntOk Tryz.prog gl (tbCons e57_29666 (tbCons e57_27264 (tbCons e60_23699 (tbCons e60_20150 noTb)))) 1000 100 e17_18643 := by
  intro r
  kernel_rfl
end Go.Proofs.YtdjhicbhegaenaaGreatDoor.Clo
