/- Parts. -/
import Derived.RangeFuncGives
import Derived.RangeFuncSeq
import Derived.Sort.MapsRangeIn
import Derived.Shelf.AbstractIn
import Derived.OwnWalkIn
import Derived.TacticsInMore
import Derived.RegionIn
import Derived.LoopNIn
import Derived.LoopIn
import Derived.WalkKit
import Derived.Deep.MidRow
import Derived.Test.YtfgpipfjalmooaaGreatOrdC
import Derived.Maps.OwnIn
import Derived.Shelf.SlIterI.Sorted
import Derived.Test.YtfgpipfjalmooaaGreatStl
import Derived.Shelf.SlIterI.Collect
import Derived.RangeFuncOwn
set_option linter.all false
namespace Go.Proofs.YtfgpipfjalmooaaGreat
namespace Abs
open Go Go.Proofs Go.RowKit Go.Maps
attribute [local go_sem] Oper.semAt_some
structure WK where
 id:Int
 fd:Int
 nn:Int
 fl:Bool
 tx:ByteArray
 rf:Int
def yS (x:WK):Value :=.agg #[.int .i64 x.id,.int .i64 x.fd,.int .i64 x.nn,.bool x.fl,.string x.tx,.int .i64 x.rf]
def agi (w:World)(b o:Nat)(x:WK):Prop:=w.cell? ⟨b,o,none⟩=some (.int .i64 x.id)∧w.cell? ⟨b,o+1,none⟩=some (.int .i64 x.fd)∧w.cell? ⟨b,o+2,none⟩=some (.int .i64 x.nn)∧w.cell? ⟨b,o+3,none⟩=some (.bool x.fl)∧w.cell? ⟨b,o+4,none⟩=some (.string x.tx)∧w.cell? ⟨b,o+5,none⟩=some (.int .i64 x.rf)
theorem agi.keep {w w':World}{B b o:Nat}{x:WK}(h:agi w b o x)(g:Below B w w')(f:b<B):agi w' b o x :=
 have t:∀o v,w.cell? ⟨b,o,none⟩=some v→w'.cell? ⟨b,o,none⟩=some v:=λo v h=>(g.cell (p:=⟨b,o,none⟩) f).trans h
 ⟨t _ _ h.1,t _ _ h.2.1,t _ _ h.2.2.1,t _ _ h.2.2.2.1,t _ _ h.2.2.2.2.1,t _ _ h.2.2.2.2.2⟩
open Go.WideElems Go.MapKept
open Go.ChangeMaps (setBlock heap_setBlock_same)
end Abs
namespace Go.Proofs
open Go.Shelf
def Tryz.sortZ_ren:Go.Shelf.Ren:=⟨λ|6=>30|8=>62|9=>36|11=>109|13=>67|12=>66|23=>119|24=>120|14=>110|15=>111|16=>112|17=>113|18=>114|19=>115|20=>116|21=>117|22=>118|25=>152|26=>153|27=>154|28=>155|29=>156|30=>70|31=>187|n=>n,λ|26=>3|28=>70|24=>23|0=>0|3=>3|37=>108|48=>158|50=>160|4=>4|40=>150|39=>149|45=>155|5=>5|9=>9|51=>201|55=>205|57=>240|58=>128|33=>103|n=>n,λ|n=>n⟩
theorem Tryz.sortZ:Go.Proofs.SlLaysZI.n6 Tryz.prog Tryz.sortZ_ren:={
 mixed:=by kernel_rfl
 f6:=⟨Tryz.f30.name,by decide,Tryz.func30.trans (congrArg some (by kernel_rfl))⟩
 f8:=⟨Tryz.f62.name,by decide,Tryz.func62.trans (congrArg some (by kernel_rfl))⟩
 f11:=⟨Tryz.f109.name,by decide,Tryz.func109.trans (congrArg some (by kernel_rfl))⟩
 t0:=Tryz.underlying0
 a0:=Tryz.isAgg0
 z0:=Tryz.sizeOf0
 v0:=Tryz.zeroValue0
 t24:=Tryz.underlying23
 a24:=Tryz.isAgg23
 z24:=Tryz.sizeOf23
 v24:=Tryz.zeroValue23
 t26:=Tryz.underlying3
 a26:=Tryz.isAgg3
 z26:=Tryz.sizeOf3
 v26:=Tryz.zeroValue3
 t28:=Tryz.underlying70
 a28:=Tryz.isAgg70
 z28:=Tryz.sizeOf70
 v28:=Tryz.zeroValue70
 i26:=by kernel_rfl }
end Go.Proofs
namespace Abs
open Go Go.Proofs Go.RowKit Go.Maps Go.Shelf Go.WideElems Go.MapKept
open Go.ChangeMaps (setBlock heap_setBlock_same)
open Go.ChangeShapes (lits)
attribute [local go_sem] Oper.semAt_some
def HU (f:List WK)(x:Int):Bool:=f.any λy=>y.id == x&&(y.fd == 1&&(y.nn == 2||y.nn == 3))
def ahJ (f:List WK)(p:Int):List Int:=(f.filter λy=>y.fd == 2&&y.rf == p).map (·.id)
open Go.ChangeMaps (setBlock heap_setBlock_same)
open Go.ChangeShapes (lits)
attribute [local go_sem] Oper.semAt_some
