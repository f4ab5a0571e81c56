/- The closed facts of the row ResolveRests. -/
import Derived.Test.YthfdnklcgfkjoaaGreatDoorAl
import Derived.Test.YthfdnklcgfkjoaaGreatDoorRows
import Derived.JoinedOf
set_option linter.all false
namespace Go.Proofs.YthfdnklcgfkjoaaGreatDoor.Abs
open Go Go.Proofs Tryz
def cW {a b:Bool}(h:a=true)(k:b=true):(a&&b)=true:=by rw[h,k];rfl
def fq0:(Rows.resolveRestsRow.wf (OpenSpec.ofChange Rows.resolveRestsSpec))=true:=by kernel_rfl
def fq1:(laidOutB pinned.checked.prog)=true:=by kernel_rfl
def fq2:(mapsRowed pinned.checked.prog)=true:=by kernel_rfl
def fq3:(f3.params.all (pinned.checked.prog.readableRec ·))=true:=by kernel_rfl
def fq4:(namedTie pinned.checked.prog Rows.resolveRestsRow.named Rows.resolveRestsSpec.vars)=true:=by kernel_rfl
def fq5:((Rows.resolveRestsRow.stops == []))=true:=by kernel_rfl
def fq6:((pinned.checked.prog.stops == []))=true:=by kernel_rfl
def fq7:((Rows.resolveRestsRow.knobs == []))=true:=by kernel_rfl
def fq8:((pinned.checked.prog.stopKnobs == []))=true:=by kernel_rfl
def fq9:((Rows.resolveRestsRow.inPlace == pinned.checked.prog.inPlace 3))=true:=by kernel_rfl
def arF:((Rows.resolveRestsRow.unfollowed == pinned.checked.prog.unfollowed 3))=true:=by kernel_rfl
def arE:((Rows.resolveRestsRow.recurses == pinned.checked.prog.recurses 3))=true:=by kernel_rfl
def arD:((Rows.resolveRestsRow.named == pinned.checked.prog.varsNamed 3))=true:=by kernel_rfl
def arC:((Rows.resolveRestsRow.maps == (f3.params.toList++Rows.resolveRestsSpec.plain.varTypes pinned.checked.prog).any (pinned.checked.prog.mapsRec ·)))=true:=by kernel_rfl
def arB:((Rows.resolveRestsRow.ifaces == (f3.params.toList++Rows.resolveRestsSpec.plain.varTypes pinned.checked.prog).any (pinned.checked.prog.ifacesRec ·)))=true:=by kernel_rfl
def arA:((Rows.resolveRestsRow.mapsOut == pinned.checked.prog.mapsAmong f3.resultTypes.toList))=true:=by kernel_rfl
def arz:((Rows.resolveRestsRow.loops == (f3.params.toList++Rows.resolveRestsSpec.plain.varTypes pinned.checked.prog).any (pinned.checked.prog.loopsFrom ·)))=true:=by kernel_rfl
def ary:((Rows.resolveRestsRow.wideKeys == (f3.params.toList++Rows.resolveRestsSpec.plain.varTypes pinned.checked.prog++f3.resultTypes.toList).any (pinned.checked.prog.wideKeysFrom ·)))=true:=by kernel_rfl
def arx:(Rows.resolveRestsSpec.vars.all (pinned.checked.prog.varReadable ·))=true:=by kernel_rfl
def arw:(f3.resultTypes.all (λt=>pinned.checked.prog.readableRec t&&decide (t<pinned.checked.prog.types.size)))=true:=by kernel_rfl
def arv:((Rows.resolveRestsRow.ifacesOut == f3.resultTypes.toList.any (pinned.checked.prog.ifacesRec ·)))=true:=by kernel_rfl
def aru:((Rows.resolveRestsRow.loopsOut == f3.resultTypes.toList.any (pinned.checked.prog.loopsFrom ·)))=true:=by kernel_rfl
def art:((Rows.resolveRestsRow.plainKeys == pinned.checked.prog.plainKeys))=true:=by kernel_rfl
def ars:(Rows.resolveRestsRow.shortTexts.isNone)=true:=by kernel_rfl
def arq:(pinned.checked.prog.stopsHeard)=true:=by kernel_rfl
def arp:(pinned.checked.prog.mayEnter)=true:=by kernel_rfl
def aro:((Rows.resolveRestsRow.lifted == pinned.checked.prog.liftsFinal))=true:=by kernel_rfl
def arn:((pinned.checked.prog.make == some Rows.resolveRestsRow.make))=true:=by kernel_rfl
def arm:((Rows.resolveRestsRow.kinds == (if Rows.resolveRestsRow.domain.isEmpty then[]else f3.params.toList.map λt=>match pinned.checked.prog.underlying t with|some (.int k)=>some k|_=>none)))=true:=by kernel_rfl
def arl:((Rows.resolveRestsRow.pinned == Rows.resolveRestsRow.pinnedBy))=true:=by kernel_rfl
def ark:((Rows.resolveRestsRow.veiled == (f3.params.toList++Rows.resolveRestsSpec.plain.varTypes pinned.checked.prog++f3.resultTypes.toList).any (pinned.checked.prog.veiledRec ·)))=true:=by kernel_rfl
def arj:(Rows.resolveRestsRow.veiledFits pinned.checked.prog f3.params.toList (f3.params.toList++Rows.resolveRestsSpec.plain.varTypes pinned.checked.prog++f3.resultTypes.toList))=true:=by kernel_rfl
set_option maxRecDepth 100000 in
def aeo:joinedFacts pinned.checked.prog 3 f3 Rows.resolveRestsSpec Rows.resolveRestsRow=true:=by unfold joinedFacts;exact(cW (cW (cW (cW (cW (cW (cW (cW (cW (cW (cW (cW (cW (cW (cW (cW (cW (cW (cW (cW (cW (cW (cW (cW (cW (cW (cW (cW (cW (cW (cW fq0 fq1) fq2) fq3) fq4) fq5) fq6) fq7) fq8) fq9) arF) arE) arD) arC) arB) arA) arz) ary) arx) arw) arv) aru) art) ars) arq) arp) aro) arn) arm) arl) ark) arj)
