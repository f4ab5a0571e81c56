/- Closed runs of this seat. -/
import Derived.Test.YtfgpipfjalmooaaGreatRunA
set_option linter.all false
namespace Go.Proofs.YtfgpipfjalmooaaGreat
namespace Clo
open Go Go.RowKit Tryz
theorem OX:aj prog gl QY 1000 100 OY:=by intro r;kernel_rfl
