/- Closed runs of this seat. -/
import Derived.Test.YtfgpipfjalmooaaGreatRunA
set_option linter.all false
namespace Go.Proofs.YtfgpipfjalmooaaGreat
namespace Clo
open Go Go.RowKit Tryz
theorem QO:ak prog gl S7 1000 100 QP:=by intro r;kernel_rfl
