/- The first commits 4 and 5. -/

import Derived.Test.YtfgpipfjalmooaaGreatFirC
set_option linter.all false
namespace Go.Proofs.YtfgpipfjalmooaaGreat
namespace Clo
open Go Go.RowKit Tryz
theorem Z2:wu Abs.fst4 (mkR (Dy 4) (iP prog gl0) 1000 100 noY .nil (.fn 25) [.pv (.one (.sym 0))] .leaf .e)=true:=by kernel_rfl
theorem Z1:wu Abs.fst5 (mkR (Dy 5) (iP prog gl0) 1000 100 noY .nil (.fn 25) [.pv (.one (.sym 0))] .leaf .e)=true:=by kernel_rfl
