/- Closed runs of this seat: the whole run. -/
import Derived.Test.YtdjhicbhegaenaaGreatDoorRunB
import Derived.Test.YtdjhicbhegaenaaGreatDoorRunC
import Derived.Test.YtdjhicbhegaenaaGreatDoorRunD
import Derived.Test.YtdjhicbhegaenaaGreatDoorRunE
import Derived.Test.YtdjhicbhegaenaaGreatDoorRunF
import Derived.Test.YtdjhicbhegaenaaGreatDoorRunG
import Derived.Test.YtdjhicbhegaenaaGreatDoorRunH
import Derived.Test.YtdjhicbhegaenaaGreatDoorRunI
import Derived.Test.YtdjhicbhegaenaaGreatDoorRunJ
import Derived.Test.YtdjhicbhegaenaaGreatDoorRunK
namespace Go.Proofs.YtdjhicbhegaenaaGreatDoor.Clo
open Go Go.RowKit
noncomputable def tbMain : Tb := (tbCons e11_0 (tbCons e12_1982 (tbCons e14_4152 (tbCons e15_9823 (tbCons e17_18643 noTb)))))
noncomputable def isTrueR (r : RC) : Bool := RC.rec (motive := fun _ => Bool) false (fun v _ _ => tvEq v (.pv (.one (.bl true)))) r
theorem awake_run : isTrueR (mkR tbMain (fiOf Tryz.prog gl) 1000 100 noY .nil (.fn 7) [] .leaf .e) = true := by kernel_rfl
theorem tbMain_ok (hm : Tryz.prog.follows .mixedOrders = true) : TbOk Tryz.prog gl tbMain := (tbCons_ok hm noTb_ok e11_0_ok (tbCons_ok hm noTb_ok e12_1982_ok (tbCons_ok hm (tbCons_ok hm (tbCons_ok hm noTb_ok e88_7423_ok noTb_ok) e57_7422_ok (tbCons_ok hm (tbCons_ok hm noTb_ok e88_5021_ok noTb_ok) e57_5020_ok noTb_ok)) e14_4152_ok (tbCons_ok hm (tbCons_ok hm (tbCons_ok hm noTb_ok e88_14750_ok noTb_ok) e60_14228_ok (tbCons_ok hm (tbCons_ok hm noTb_ok e88_11201_ok noTb_ok) e60_10679_ok noTb_ok)) e15_9823_ok (tbCons_ok hm (tbCons_ok hm (tbCons_ok hm noTb_ok e88_29667_ok noTb_ok) e57_29666_ok (tbCons_ok hm (tbCons_ok hm noTb_ok e88_27265_ok noTb_ok) e57_27264_ok (tbCons_ok hm (tbCons_ok hm noTb_ok e88_24221_ok noTb_ok) e60_23699_ok (tbCons_ok hm (tbCons_ok hm noTb_ok e88_20672_ok noTb_ok) e60_20150_ok noTb_ok)))) e17_18643_ok noTb_ok)))))
end Go.Proofs.YtdjhicbhegaenaaGreatDoor.Clo
