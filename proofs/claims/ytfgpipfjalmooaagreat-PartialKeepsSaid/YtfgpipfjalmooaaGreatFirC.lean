/- The first commits 0 and 1. -/
import Derived.Test.YtfgpipfjalmooaaGreatGenG
import Derived.Test.YtfgpipfjalmooaaGreatJoinA
set_option linter.all false
noncomputable section
namespace Go.Proofs.YtfgpipfjalmooaaGreat
namespace Clo
open Go Go.RowKit Tryz
def xJ (x:Abs.tCommit.den)(r:RC):Bool:=RC.rec (motive:=λ_=>Bool) false (λv d _=>IA (HP.ov .nil d).get Abs.tCommit x v) r
def EX (k:Nat):Tb:=zm 18 [.pv (.one (.sym 0)),.pv (.one (.int .i64 8))] (.pv (.one (.int .i64 (Int.ofNat k)))) S7
theorem ach:xJ Abs.fst0 (mkR (EX 0) (jm prog gl0) 1000 100 noY .nil (.fn 25) [.pv (.one (.sym 0))] .leaf .e)=true:=by kernel_rfl
theorem acg:xJ Abs.fst1 (mkR (EX 1) (jm prog gl0) 1000 100 noY .nil (.fn 25) [.pv (.one (.sym 0))] .leaf .e)=true:=by kernel_rfl
