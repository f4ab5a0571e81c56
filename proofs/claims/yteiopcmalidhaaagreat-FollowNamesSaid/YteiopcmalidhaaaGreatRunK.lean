/- Closed runs of this seat. -/
import Derived.Test.YteiopcmalidhaaaGreatRunA
set_option linter.all false
namespace Go.Proofs.YteiopcmalidhaaaGreat
namespace Clo
open Go Go.RowKit Tryz
theorem Gq:cq prog gl (av aQ (av aR dT)) 1000 100 bg (.one [0,1,2,4,10] 4 (.one [0,1,2,10] 0 .all)):=by intro r;kernel_rfl
theorem Gp:cq prog gl (av aQ (av aR dT)) 1000 100 bg (.one [0,1,2,4,10] 4 (.one [0,1,2,10] 1 .all)):=by intro r;kernel_rfl
theorem Gn:cq prog gl (av aQ (av aR dT)) 1000 100 bg (.one [0,1,2,4,10] 4 (.one [0,1,2,10] 2 .all)):=by intro r;kernel_rfl
theorem E3:cq prog gl (av aQ (av aR dT)) 1000 100 bg (.one [0,1,2,4,10] 4 (.one [0,1,2,10] 10 .all)):=by intro r;kernel_rfl
