/- The first commits 0 and 1. -/
import Derived.Test.YthfdnklcgfkjoaaGreatDoorGenG
import Derived.Test.YthfdnklcgfkjoaaGreatDoorJoinA
set_option linter.all false
noncomputable section
namespace Go.Proofs.YthfdnklcgfkjoaaGreatDoor.Clo
open Go Go.RowKit Tryz
def xN (x:Abs.tCommit.den)(r:RC):Bool:=RC.rec (motive:=λ_=>Bool) false (λv d _=>Jz (HP.ov .nil d).get Abs.tCommit x v) r
def Ft (k:Nat):Tb:=jy 18 [.pv (.one (.sym 0)),.pv (.one (.int .i64 8))] (.pv (.one (.int .i64 (Int.ofNat k)))) noTb
theorem aey:xN Abs.fst0 (mkR (Ft 0) (fiOf prog gl0) 1000 100 noY .nil (.fn 13) [.pv (.one (.sym 0))] .leaf .e)=true:=by kernel_rfl
theorem aex:xN Abs.fst1 (mkR (Ft 1) (fiOf prog gl0) 1000 100 noY .nil (.fn 13) [.pv (.one (.sym 0))] .leaf .e)=true:=by kernel_rfl
