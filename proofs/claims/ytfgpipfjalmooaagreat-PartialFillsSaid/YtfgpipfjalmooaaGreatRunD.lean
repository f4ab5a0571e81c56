/- Closed runs of this seat. -/
import Derived.Test.YtfgpipfjalmooaaGreatRunB
import Derived.Test.YtfgpipfjalmooaaGreatRunC
set_option linter.all false
noncomputable section
namespace Go.Proofs.YtfgpipfjalmooaaGreat
namespace Clo
open Go Go.RowKit Tryz
def aal:Tb:=(Fo agH (Fo Ra aak))
def V7 (r:RC):Bool:=RC.rec (motive:=λ_=>Bool) false (λv _ _=>Xk v (.pv (.one (.bl true)))) r
theorem ZB:V7 (mkR aal (ju prog gl) 1000 100 noY .nil (.fn 15) [] .leaf .e)=true:=by kernel_rfl
theorem Xv [SymVal](f:prog.follows .mixedOrders=true)(g:zd prog gl aak):zd prog gl aal:=(Cg f gw acB (Cg f gw Q9 g))
