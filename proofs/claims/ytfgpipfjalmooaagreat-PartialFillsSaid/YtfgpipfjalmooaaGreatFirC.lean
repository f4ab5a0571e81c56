/- The first commits 0 and 1. -/
import Derived.Test.YtfgpipfjalmooaaGreatGenG
import Derived.Test.YtfgpipfjalmooaaGreatJoinA
set_option linter.all false
noncomputable section
namespace Go.Proofs.YtfgpipfjalmooaaGreat
namespace Clo
open Go Go.RowKit Tryz
def xU (x:Abs.tCommit.den)(r:RC):Bool:=RC.rec (motive:=λ_=>Bool) false (λv d _=>I2 (HP.ov .nil d).get Abs.tCommit x v) r
def Fm (k:Nat):Tb:=zC 18 [.pv (.one (.sym 0)),.pv (.one (.int .i64 8))] (.pv (.one (.int .i64 (Int.ofNat k)))) Tw
theorem ach:xU Abs.fst0 (mkR (Fm 0) (ju prog gl0) 1000 100 noY .nil (.fn 25) [.pv (.one (.sym 0))] .leaf .e)=true:=by kernel_rfl
theorem acg:xU Abs.fst1 (mkR (Fm 1) (ju prog gl0) 1000 100 noY .nil (.fn 25) [.pv (.one (.sym 0))] .leaf .e)=true:=by kernel_rfl
