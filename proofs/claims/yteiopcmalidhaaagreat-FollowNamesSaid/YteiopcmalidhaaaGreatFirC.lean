/- The first commits 0 and 1. -/
import Derived.Test.YteiopcmalidhaaaGreatGenG
import Derived.Test.YteiopcmalidhaaaGreatJoinA
set_option linter.all false
noncomputable section
namespace Go.Proofs.YteiopcmalidhaaaGreat
namespace Clo
open Go Go.RowKit Tryz
def vU (x:Abs.tCommit.den)(r:RC):Bool:=RC.rec (motive:=λ_=>Bool) false (λv d _=>GO (HP.ov .nil d).get Abs.tCommit x v) r
def CU (k:Nat):Tb:=xB 31 [.pv (.one (.sym 0)),.pv (.one (.int .i64 8))] (.pv (.one (.int .i64 (Int.ofNat k)))) dT
theorem Zn:vU Abs.fst0 (mkR (CU 0) (gK prog gl0) 1000 100 noY .nil (.fn 28) [.pv (.one (.sym 0))] .leaf .e)=true:=by kernel_rfl
theorem Zm:vU Abs.fst1 (mkR (CU 1) (gK Tryz.prog gl0) 1000 100 noY .nil (.fn 28) [.pv (.one (.sym 0))] .leaf .e)=true:=by kernel_rfl
