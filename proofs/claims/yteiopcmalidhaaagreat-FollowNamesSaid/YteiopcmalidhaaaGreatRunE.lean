/- Closed runs of this seat. -/
import Derived.Test.YteiopcmalidhaaaGreatRunA
set_option linter.all false
namespace Go.Proofs.YteiopcmalidhaaaGreat
namespace Clo
open Go Go.RowKit Tryz
theorem GI:ai prog gl dT 1000 100 aR:=by intro r;kernel_rfl
theorem GF:ai prog gl dT 1000 100 aQ:=by intro r;kernel_rfl
