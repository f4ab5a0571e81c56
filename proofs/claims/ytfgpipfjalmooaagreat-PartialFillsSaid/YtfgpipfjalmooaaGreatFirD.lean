/- The first commits 2 and 3. -/

import Derived.Test.YtfgpipfjalmooaaGreatFirC
set_option linter.all false
namespace Go.Proofs.YtfgpipfjalmooaaGreat
namespace Clo
open Go Go.RowKit Tryz
theorem acf:xU Abs.fst2 (mkR (Fm 2) (ju prog gl0) 1000 100 noY .nil (.fn 25) [.pv (.one (.sym 0))] .leaf .e)=true:=by kernel_rfl
theorem ace:xU Abs.fst3 (mkR (Fm 3) (ju prog gl0) 1000 100 noY .nil (.fn 25) [.pv (.one (.sym 0))] .leaf .e)=true:=by kernel_rfl
