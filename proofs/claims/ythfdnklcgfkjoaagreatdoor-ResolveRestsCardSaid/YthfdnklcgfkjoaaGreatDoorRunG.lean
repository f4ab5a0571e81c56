/- Closed runs of this seat. -/
import Derived.Test.YthfdnklcgfkjoaaGreatDoorRunA
set_option linter.all false
namespace Go.Proofs.YthfdnklcgfkjoaaGreatDoor.Clo
open Go Go.RowKit Tryz
theorem SF:am prog gl (mh Lx (mh Ly (mh Lz alJ))) 1000 100 SG:=by intro r;kernel_rfl
theorem SD:am prog gl noTb 1000 100 SE:=by intro r;kernel_rfl
theorem SB:am prog gl noTb 1000 100 SC:=by intro r;kernel_rfl
