/- The first commits 4 and 5. -/

import Derived.Test.YtfgpipfjalmooaaGreatFirC
set_option linter.all false
namespace Go.Proofs.YtfgpipfjalmooaaGreat
namespace Clo
open Go Go.RowKit Tryz
theorem abN:wY Abs.fst4 (mkR (Ei 4) (jU prog gl0) 1000 100 noY .nil (.fn 25) [.pv (.one (.sym 0))] .leaf .e)=true:=by kernel_rfl
theorem abM:wY Abs.fst5 (mkR (Ei 5) (jU prog gl0) 1000 100 noY .nil (.fn 25) [.pv (.one (.sym 0))] .leaf .e)=true:=by kernel_rfl
