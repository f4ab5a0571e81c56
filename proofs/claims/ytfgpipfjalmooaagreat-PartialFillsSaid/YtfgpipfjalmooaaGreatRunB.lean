/- Closed runs of this seat. -/
import Derived.Test.YtfgpipfjalmooaaGreatRunA
set_option linter.all false
namespace Go.Proofs.YtfgpipfjalmooaaGreat
namespace Clo
open Go Go.RowKit Tryz
theorem acB:ar prog gl Tw 1000 100 agH:=by intro r;kernel_rfl
