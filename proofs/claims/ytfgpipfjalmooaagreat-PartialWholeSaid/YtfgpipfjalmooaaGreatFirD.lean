/- The first commits 2 and 3. -/

import Derived.Test.YtfgpipfjalmooaaGreatFirC
set_option linter.all false
namespace Go.Proofs.YtfgpipfjalmooaaGreat
namespace Clo
open Go Go.RowKit Tryz
theorem abP:wY Abs.fst2 (mkR (Ei 2) (jU prog gl0) 1000 100 noY .nil (.fn 25) [.pv (.one (.sym 0))] .leaf .e)=true:=by kernel_rfl
theorem abO:wY Abs.fst3 (mkR (Ei 3) (jU prog gl0) 1000 100 noY .nil (.fn 25) [.pv (.one (.sym 0))] .leaf .e)=true:=by kernel_rfl
