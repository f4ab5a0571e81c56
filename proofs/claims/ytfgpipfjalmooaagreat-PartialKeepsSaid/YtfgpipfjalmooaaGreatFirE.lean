/- The first commits 4 and 5. -/

import Derived.Test.YtfgpipfjalmooaaGreatFirC
set_option linter.all false
namespace Go.Proofs.YtfgpipfjalmooaaGreat
namespace Clo
open Go Go.RowKit Tryz
theorem acd:xJ Abs.fst4 (mkR (EX 4) (jm prog gl0) 1000 100 noY .nil (.fn 25) [.pv (.one (.sym 0))] .leaf .e)=true:=by kernel_rfl
theorem acb:xJ Abs.fst5 (mkR (EX 5) (jm prog gl0) 1000 100 noY .nil (.fn 25) [.pv (.one (.sym 0))] .leaf .e)=true:=by kernel_rfl
