/- Closed runs of this seat. -/
import Derived.Test.YtfgpipfjalmooaaGreatRunB
import Derived.Test.YtfgpipfjalmooaaGreatRunC
set_option linter.all false
noncomputable section
namespace Go.Proofs.YtfgpipfjalmooaaGreat
namespace Clo
open Go Go.RowKit Tryz
def Zu:Tb:=(Ej agO (Ej Qb Zt))
def UV (r:RC):Bool:=RC.rec (motive:=λ_=>Bool) false (λv _ _=>V0 v (.pv (.one (.bl true)))) r
theorem YK:UV (mkR Zu (jU prog gl) 1000 100 noY .nil (.fn 15) [] .leaf .e)=true:=by kernel_rfl
theorem Wj [SymVal](f:prog.follows .mixedOrders=true)(g:yc prog gl Zt):yc prog gl Zu:=(AH f fT ab9 (AH f fT Qa g))
