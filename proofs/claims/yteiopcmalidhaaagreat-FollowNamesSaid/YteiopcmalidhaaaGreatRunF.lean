/- Closed runs of this seat. -/
import Derived.Test.YteiopcmalidhaaaGreatRunA
set_option linter.all false
namespace Go.Proofs.YteiopcmalidhaaaGreat
namespace Clo
open Go Go.RowKit Tryz
theorem GH:ai prog gl dT 1000 100 wZ:=by intro r;kernel_rfl
theorem GG:ai prog gl dT 1000 100 wY:=by intro r;kernel_rfl
theorem GE:ai prog gl dT 1000 100 wX:=by intro r;kernel_rfl
