/- Closed runs of this seat. -/
import Derived.Test.YtfgpipfjalmooaaGreatRunA
set_option linter.all false
namespace Go.Proofs.YtfgpipfjalmooaaGreat
namespace Clo
open Go Go.RowKit Tryz
theorem Qa:aj prog gl Sr 1000 100 Qb:=by intro r;kernel_rfl
