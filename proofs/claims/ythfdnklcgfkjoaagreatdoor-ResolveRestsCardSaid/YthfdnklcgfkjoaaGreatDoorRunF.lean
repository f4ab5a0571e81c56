/- Closed runs of this seat. -/
import Derived.Test.YthfdnklcgfkjoaaGreatDoorRunA
set_option linter.all false
namespace Go.Proofs.YthfdnklcgfkjoaaGreatDoor.Clo
open Go Go.RowKit Tryz
theorem Oa:am prog gl noTb 1000 100 Lx:=by intro r;kernel_rfl
