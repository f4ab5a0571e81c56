/- Closed runs of this seat. -/
import Derived.Test.YtfgpipfjalmooaaGreatRunB
import Derived.Test.YtfgpipfjalmooaaGreatRunC
set_option linter.all false
noncomputable section
namespace Go.Proofs.YtfgpipfjalmooaaGreat
namespace Clo
open Go Go.RowKit Tryz
def ZZ:Tb:=(EY ag5 (EY QP ZY))
def Vz (r:RC):Bool:=RC.rec (motive:=λ_=>Bool) false (λv _ _=>WN v (.pv (.one (.bl true)))) r
theorem Zk:Vz (mkR ZZ (jm prog gl) 1000 100 noY .nil (.fn 15) [] .leaf .e)=true:=by kernel_rfl
theorem W7 [SymVal](f:prog.follows .mixedOrders=true)(g:yQ prog gl ZY):yQ prog gl ZZ:=(BN f gk acz (BN f gk QO g))
