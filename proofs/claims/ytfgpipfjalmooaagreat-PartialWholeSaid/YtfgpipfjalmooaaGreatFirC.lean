/- The first commits 0 and 1. -/
import Derived.Test.YtfgpipfjalmooaaGreatGenG
import Derived.Test.YtfgpipfjalmooaaGreatJoinA
set_option linter.all false
noncomputable section
namespace Go.Proofs.YtfgpipfjalmooaaGreat
namespace Clo
open Go Go.RowKit Tryz
def wY (x:Abs.tCommit.den)(r:RC):Bool:=RC.rec (motive:=λ_=>Bool) false (λv d _=>HS (HP.ov .nil d).get Abs.tCommit x v) r
def Ei (k:Nat):Tb:=yA 18 [.pv (.one (.sym 0)),.pv (.one (.int .i64 8))] (.pv (.one (.int .i64 (Int.ofNat k)))) Sr
theorem abR:wY Abs.fst0 (mkR (Ei 0) (jU prog gl0) 1000 100 noY .nil (.fn 25) [.pv (.one (.sym 0))] .leaf .e)=true:=by kernel_rfl
theorem abQ:wY Abs.fst1 (mkR (Ei 1) (jU prog gl0) 1000 100 noY .nil (.fn 25) [.pv (.one (.sym 0))] .leaf .e)=true:=by kernel_rfl
