/- Closed runs of this seat. -/
import Derived.Test.YteiopcmalidhaaaGreatRunA
set_option linter.all false
namespace Go.Proofs.YteiopcmalidhaaaGreat
namespace Clo
open Go Go.RowKit Tryz
theorem Gu:cq prog gl (av aQ (av aR dT)) 1000 100 bg (.one [0,1,2,4,10] 2 (.one [0,1,4,10] 0 .all)):=by intro r;kernel_rfl
theorem Gs:cq prog gl (av aQ (av aR dT)) 1000 100 bg (.one [0,1,2,4,10] 2 (.one [0,1,4,10] 1 .all)):=by intro r;kernel_rfl
theorem Gr:cq prog gl (av aQ (av aR dT)) 1000 100 bg (.one [0,1,2,4,10] 2 (.one [0,1,4,10] 4 .all)):=by intro r;kernel_rfl
theorem E4:cq prog gl (av aQ (av aR dT)) 1000 100 bg (.one [0,1,2,4,10] 2 (.one [0,1,4,10] 10 .all)):=by intro r;kernel_rfl
