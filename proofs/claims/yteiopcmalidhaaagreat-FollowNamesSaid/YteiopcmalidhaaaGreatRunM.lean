/- Closed runs of this seat. -/
import Derived.Test.YteiopcmalidhaaaGreatRunA
set_option linter.all false
namespace Go.Proofs.YteiopcmalidhaaaGreat
namespace Clo
open Go Go.RowKit Tryz
theorem Gm:cq prog gl (av rk (av wW (av wX (av wY (av wZ dT))))) 1000 100 Aq .all:=by intro r;kernel_rfl
theorem KL:AE prog gl (av rk (av wW (av wX (av wY (av wZ dT))))) 1000 100 Aq:=Oi Gm
theorem OH:ai prog gl Hc 1000 100 OI:=by intro r;kernel_rfl
