/- The first commits 4 and 5. -/

import Derived.Test.YteiopcmalidhaaaGreatFirC
set_option linter.all false
namespace Go.Proofs.YteiopcmalidhaaaGreat
namespace Clo
open Go Go.RowKit Tryz
theorem Zj:vU Abs.fst4 (mkR (CU 4) (gK prog gl0) 1000 100 noY .nil (.fn 28) [.pv (.one (.sym 0))] .leaf .e)=true:=by kernel_rfl
theorem Zi:vU Abs.fst5 (mkR (CU 5) (gK prog gl0) 1000 100 noY .nil (.fn 28) [.pv (.one (.sym 0))] .leaf .e)=true:=by kernel_rfl
