/- Closed runs of this seat. -/
import Derived.Test.YteiopcmalidhaaaGreatRunA
set_option linter.all false
namespace Go.Proofs.YteiopcmalidhaaaGreat
namespace Clo
open Go Go.RowKit Tryz
theorem E9:cq prog gl (av aQ (av aR dT)) 1000 100 bg (.one [0,1,2,4,10] 10 (.one [0,1,2,4] 0 .all)):=by intro r;kernel_rfl
theorem E8:cq prog gl (av aQ (av aR dT)) 1000 100 bg (.one [0,1,2,4,10] 10 (.one [0,1,2,4] 1 .all)):=by intro r;kernel_rfl
theorem E7:cq prog gl (av aQ (av aR dT)) 1000 100 bg (.one [0,1,2,4,10] 10 (.one [0,1,2,4] 2 .all)):=by intro r;kernel_rfl
theorem E6:cq prog gl (av aQ (av aR dT)) 1000 100 bg (.one [0,1,2,4,10] 10 (.one [0,1,2,4] 4 .all)):=by intro r;kernel_rfl
