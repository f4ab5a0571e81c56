/- Closed runs of this seat: the runs, part 6. -/
import Derived.Test.YtdjhicbhegaenaaGreatDoorRunA
namespace Go.Proofs.YtdjhicbhegaenaaGreatDoor.Clo
open Go Go.RowKit
theorem e57_5020_ok : EntOk Tryz.prog gl (tbCons e88_5021 noTb) 1000 100 e57_5020 := by
  intro r
  kernel_rfl
theorem e57_7422_ok : EntOk Tryz.prog gl (tbCons e88_7423 noTb) 1000 100 e57_7422 := by
  intro r
  kernel_rfl
theorem e57_27264_ok : EntOk Tryz.prog gl (tbCons e88_27265 noTb) 1000 100 e57_27264 := by
  intro r
  kernel_rfl
theorem e57_29666_ok : EntOk Tryz.prog gl (tbCons e88_29667 noTb) 1000 100 e57_29666 := by
  intro r
  kernel_rfl
end Go.Proofs.YtdjhicbhegaenaaGreatDoor.Clo
