/- Closed runs of this seat. -/
import Derived.Test.YteiopcmalidhaaaGreatRunA
set_option linter.all false
namespace Go.Proofs.YteiopcmalidhaaaGreat
namespace Clo
open Go Go.RowKit Tryz
theorem OF:ai prog gl (av OC Hc) 1000 100 OG:=by intro r;kernel_rfl
theorem OD:ai prog gl (av OA Hc) 1000 100 OE:=by intro r;kernel_rfl
