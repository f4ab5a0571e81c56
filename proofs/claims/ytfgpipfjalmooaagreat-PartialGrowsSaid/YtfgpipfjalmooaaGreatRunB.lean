/- Closed runs of this seat. -/
import Derived.Test.YtfgpipfjalmooaaGreatRunA
set_option linter.all false
namespace Go.Proofs.YtfgpipfjalmooaaGreat
namespace Clo
open Go Go.RowKit Tryz
theorem aau:aj prog gl QY 1000 100 afd:=by intro r;kernel_rfl
