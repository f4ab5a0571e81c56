/- The first commits 0 and 1. -/
import Derived.Test.YtfgpipfjalmooaaGreatGenG
import Derived.Test.YtfgpipfjalmooaaGreatJoinA
set_option linter.all false
noncomputable section
namespace Go.Proofs.YtfgpipfjalmooaaGreat
namespace Clo
open Go Go.RowKit Tryz
def wu (x:Abs.tCommit.den)(r:RC):Bool:=RC.rec (motive:=λ_=>Bool) false (λv d _=>He (HP.ov .nil d).get Abs.tCommit x v) r
def Dy (k:Nat):Tb:=xY 18 [.pv (.one (.sym 0)),.pv (.one (.int .i64 8))] (.pv (.one (.int .i64 (Int.ofNat k)))) QY
theorem Z6:wu Abs.fst0 (mkR (Dy 0) (iP prog gl0) 1000 100 noY .nil (.fn 25) [.pv (.one (.sym 0))] .leaf .e)=true:=by kernel_rfl
theorem Z5:wu Abs.fst1 (mkR (Dy 1) (iP prog gl0) 1000 100 noY .nil (.fn 25) [.pv (.one (.sym 0))] .leaf .e)=true:=by kernel_rfl
