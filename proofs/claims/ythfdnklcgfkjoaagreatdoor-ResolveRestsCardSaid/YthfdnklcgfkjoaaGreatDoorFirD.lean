/- The first commits 2 and 3. -/

import Derived.Test.YthfdnklcgfkjoaaGreatDoorFirC
set_option linter.all false
namespace Go.Proofs.YthfdnklcgfkjoaaGreatDoor.Clo
open Go Go.RowKit Tryz
theorem aew:xN Abs.fst2 (mkR (Ft 2) (fiOf prog gl0) 1000 100 noY .nil (.fn 13) [.pv (.one (.sym 0))] .leaf .e)=true:=by kernel_rfl
theorem aev:xN Abs.fst3 (mkR (Ft 3) (fiOf prog gl0) 1000 100 noY .nil (.fn 13) [.pv (.one (.sym 0))] .leaf .e)=true:=by kernel_rfl
