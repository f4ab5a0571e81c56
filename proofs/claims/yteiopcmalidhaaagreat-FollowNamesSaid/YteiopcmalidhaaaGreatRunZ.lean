/- Closed runs of this seat. -/
import Derived.Test.YteiopcmalidhaaaGreatRunB
import Derived.Test.YteiopcmalidhaaaGreatRunC
import Derived.Test.YteiopcmalidhaaaGreatRunD
import Derived.Test.YteiopcmalidhaaaGreatRunE
import Derived.Test.YteiopcmalidhaaaGreatRunF
import Derived.Test.YteiopcmalidhaaaGreatRunG
import Derived.Test.YteiopcmalidhaaaGreatRunH
import Derived.Test.YteiopcmalidhaaaGreatRunI
import Derived.Test.YteiopcmalidhaaaGreatRunJ
import Derived.Test.YteiopcmalidhaaaGreatRunK
import Derived.Test.YteiopcmalidhaaaGreatRunL
import Derived.Test.YteiopcmalidhaaaGreatRunM
import Derived.Test.YteiopcmalidhaaaGreatRunN
set_option linter.all false
noncomputable section
namespace Go.Proofs.YteiopcmalidhaaaGreat
namespace Clo
open Go Go.RowKit Tryz
theorem KM:AE prog gl (av aQ (av aR dT)) 1000 100 bg:=Rr [(.one [0,1,2,4,10] 0 (.one [1,2,4,10] 1 .all)),(.one [0,1,2,4,10] 0 (.one [1,2,4,10] 2 .all)),(.one [0,1,2,4,10] 0 (.one [1,2,4,10] 4 .all)),(.one [0,1,2,4,10] 0 (.one [1,2,4,10] 10 .all)),(.one [0,1,2,4,10] 1 (.one [0,2,4,10] 0 .all)),(.one [0,1,2,4,10] 1 (.one [0,2,4,10] 2 .all)),(.one [0,1,2,4,10] 1 (.one [0,2,4,10] 4 .all)),(.one [0,1,2,4,10] 1 (.one [0,2,4,10] 10 .all)),(.one [0,1,2,4,10] 2 (.one [0,1,4,10] 0 .all)),(.one [0,1,2,4,10] 2 (.one [0,1,4,10] 1 .all)),(.one [0,1,2,4,10] 2 (.one [0,1,4,10] 4 .all)),(.one [0,1,2,4,10] 2 (.one [0,1,4,10] 10 .all)),(.one [0,1,2,4,10] 4 (.one [0,1,2,10] 0 .all)),(.one [0,1,2,4,10] 4 (.one [0,1,2,10] 1 .all)),(.one [0,1,2,4,10] 4 (.one [0,1,2,10] 2 .all)),(.one [0,1,2,4,10] 4 (.one [0,1,2,10] 10 .all)),(.one [0,1,2,4,10] 10 (.one [0,1,2,4] 0 .all)),(.one [0,1,2,4,10] 10 (.one [0,1,2,4] 1 .all)),(.one [0,1,2,4,10] 10 (.one [0,1,2,4] 2 .all)),(.one [0,1,2,4,10] 10 (.one [0,1,2,4] 4 .all))] (by kernel_rfl) (h_.2 ⟨GB,h_.2 ⟨GA,h_.2 ⟨Gz,h_.2 ⟨Fa,h_.2 ⟨Gy,h_.2 ⟨Gw,h_.2 ⟨Gv,h_.2 ⟨E5,h_.2 ⟨Gu,h_.2 ⟨Gs,h_.2 ⟨Gr,h_.2 ⟨E4,h_.2 ⟨Gq,h_.2 ⟨Gp,h_.2 ⟨Gn,h_.2 ⟨E3,h_.2 ⟨E9,h_.2 ⟨E8,h_.2 ⟨E7,h_.2 ⟨E6,λ_ h=>nomatch h⟩⟩⟩⟩⟩⟩⟩⟩⟩⟩⟩⟩⟩⟩⟩⟩⟩⟩⟩⟩)
def Xa:Tb:=av aee (av OG (av OE (av OI (av bg (av Aq Hc)))))
def S7 (r:RC):Bool:=RC.rec (motive:=λ_=>Bool) false (λv _ _=>Ui v (.pv (.one (.bl true)))) r
theorem Ww:S7 (mkR Xa (gK prog gl) 1000 100 noY .nil (.fn 12) [] .leaf .e)=true:=by kernel_rfl
theorem Uu [SymVal](f:prog.follows .mixedOrders=true)(g:rK prog gl Hc):rK prog gl Xa:=(cA f bS ZQ (cA f (cA f bS OB g) OF (cA f (cA f bS Oz g) OD (cA f g OH (wu f (cA f bS GF (cA f bS GI bS)) KM (wu f (wu f bS GC (cA f bS GD (cA f bS GE (cA f bS GG (cA f bS GH bS))))) KL g))))))
