/- Closed runs of this seat. -/
import Derived.Test.YteiopcmalidhaaaGreatRunA
set_option linter.all false
namespace Go.Proofs.YteiopcmalidhaaaGreat
namespace Clo
open Go Go.RowKit Tryz
theorem GD:ai prog gl dT 1000 100 wW:=by intro r;kernel_rfl
theorem Fb:cq prog gl dT 1000 100 rk .all:=by intro r;kernel_rfl
theorem GC:AE prog gl dT 1000 100 rk:=Oi Fb
