/- The first commits 2 and 3. -/

import Derived.Test.YteiopcmalidhaaaGreatFirC
set_option linter.all false
namespace Go.Proofs.YteiopcmalidhaaaGreat
namespace Clo
open Go Go.RowKit Tryz
theorem Zl:vU Abs.fst2 (mkR (CU 2) (gK prog gl0) 1000 100 noY .nil (.fn 28) [.pv (.one (.sym 0))] .leaf .e)=true:=by kernel_rfl
theorem Zk:vU Abs.fst3 (mkR (CU 3) (gK prog gl0) 1000 100 noY .nil (.fn 28) [.pv (.one (.sym 0))] .leaf .e)=true:=by kernel_rfl
