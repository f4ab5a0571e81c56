/- Closed runs of this seat. -/
import Derived.Test.YtfgpipfjalmooaaGreatRunB
import Derived.Test.YtfgpipfjalmooaaGreatRunC
set_option linter.all false
noncomputable section
namespace Go.Proofs.YtfgpipfjalmooaaGreat
namespace Clo
open Go Go.RowKit Tryz
def XP:Tb:=(Dz afd (Dz OY XO))
def Tq (r:RC):Bool:=RC.rec (motive:=λ_=>Bool) false (λv _ _=>Uz v (.pv (.one (.bl true)))) r
theorem Xb:Tq (mkR XP (iP prog gl) 1000 100 noY .nil (.fn 15) [] .leaf .e)=true:=by kernel_rfl
theorem UM [SymVal](f:prog.follows .mixedOrders=true)(g:xH prog gl XO):xH prog gl XP:=(Ak f fW aau (Ak f fW OX g))
