/- The first commits 4 and 5. -/

import Derived.Test.YthfdnklcgfkjoaaGreatDoorFirC
set_option linter.all false
namespace Go.Proofs.YthfdnklcgfkjoaaGreatDoor.Clo
open Go Go.RowKit Tryz
theorem aeu:xN Abs.fst4 (mkR (Ft 4) (fiOf prog gl0) 1000 100 noY .nil (.fn 13) [.pv (.one (.sym 0))] .leaf .e)=true:=by kernel_rfl
theorem aet:xN Abs.fst5 (mkR (Ft 5) (fiOf prog gl0) 1000 100 noY .nil (.fn 13) [.pv (.one (.sym 0))] .leaf .e)=true:=by kernel_rfl
