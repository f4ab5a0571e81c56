/- Closed runs of this seat. -/
import Derived.Test.YteiopcmalidhaaaGreatRunA
set_option linter.all false
namespace Go.Proofs.YteiopcmalidhaaaGreat
namespace Clo
open Go Go.RowKit Tryz
theorem Gy:cq prog gl (av aQ (av aR dT)) 1000 100 bg (.one [0,1,2,4,10] 1 (.one [0,2,4,10] 0 .all)):=by intro r;kernel_rfl
theorem Gw:cq prog gl (av aQ (av aR dT)) 1000 100 bg (.one [0,1,2,4,10] 1 (.one [0,2,4,10] 2 .all)):=by intro r;kernel_rfl
theorem Gv:cq prog gl (av aQ (av aR dT)) 1000 100 bg (.one [0,1,2,4,10] 1 (.one [0,2,4,10] 4 .all)):=by intro r;kernel_rfl
theorem E5:cq prog gl (av aQ (av aR dT)) 1000 100 bg (.one [0,1,2,4,10] 1 (.one [0,2,4,10] 10 .all)):=by intro r;kernel_rfl
