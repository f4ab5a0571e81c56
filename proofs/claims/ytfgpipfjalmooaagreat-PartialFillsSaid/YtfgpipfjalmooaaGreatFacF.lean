/- The closed facts of the row PartialFills. -/
import Derived.Test.YtfgpipfjalmooaaGreatAl
import Derived.Test.YtfgpipfjalmooaaGreatRows
import Derived.JoinedOf
set_option linter.all false
namespace Go.Proofs.YtfgpipfjalmooaaGreat
namespace Abs
open Go Go.Proofs Tryz
noncomputable abbrev fqP:=pinned.checked.prog
abbrev fqR:=Rows.partialFillsRow
abbrev fqS:=Rows.partialFillsSpec
def cH {a b:Bool}(h:a=true)(k:b=true):(a&&b)=true:=by rw[h,k];rfl
def fq0:(fqR.wf (OpenSpec.ofChange fqS))=true:=Φ
def fq1:(laidOutB fqP)=true:=Φ
def fq2:(mapsRowed fqP)=true:=Φ
def fq3:(f4.params.all (fqP.readableRec ·))=true:=Φ
def fq4:(namedTie fqP fqR.named fqS.vars)=true:=Φ
def fq5:((fqR.stops == []))=true:=Φ
def fq6:((fqP.stops == []))=true:=Φ
def fq7:((fqR.knobs == []))=true:=Φ
def fq8:((fqP.stopKnobs == []))=true:=Φ
def fq9:((fqR.inPlace == fqP.inPlace 4))=true:=Φ
def ajB:((fqR.unfollowed == fqP.unfollowed 4))=true:=Φ
def ajA:((fqR.recurses == fqP.recurses 4))=true:=Φ
def ajz:((fqR.named == fqP.varsNamed 4))=true:=Φ
def ajy:((fqR.maps == (f4.params.toList++fqS.plain.varTypes fqP).any (fqP.mapsRec ·)))=true:=Φ
def ajx:((fqR.ifaces == (f4.params.toList++fqS.plain.varTypes fqP).any (fqP.ifacesRec ·)))=true:=Φ
def ajw:((fqR.mapsOut == fqP.mapsAmong f4.resultTypes.toList))=true:=Φ
def ajv:((fqR.loops == (f4.params.toList++fqS.plain.varTypes fqP).any (fqP.loopsFrom ·)))=true:=Φ
def aju:((fqR.wideKeys == (f4.params.toList++fqS.plain.varTypes fqP++f4.resultTypes.toList).any (fqP.wideKeysFrom ·)))=true:=Φ
def ajt:(fqS.vars.all (fqP.varReadable ·))=true:=Φ
def ajs:(f4.resultTypes.all (λt=>fqP.readableRec t&&decide (t<fqP.types.size)))=true:=Φ
def ajr:((fqR.ifacesOut == f4.resultTypes.toList.any (fqP.ifacesRec ·)))=true:=Φ
def ajq:((fqR.loopsOut == f4.resultTypes.toList.any (fqP.loopsFrom ·)))=true:=Φ
def ajp:((fqR.plainKeys == fqP.plainKeys))=true:=Φ
def ajo:(fqR.shortTexts.isNone)=true:=Φ
def ajn:(fqP.stopsHeard)=true:=Φ
def ajm:(fqP.mayEnter)=true:=Φ
def ajl:((fqR.lifted == fqP.liftsFinal))=true:=Φ
def ajk:((fqP.make == some fqR.make))=true:=Φ
def ajj:((fqR.kinds == (if fqR.domain.isEmpty then[]else f4.params.toList.map λt=>match fqP.underlying t with|some (.int k)=>some k|_=>none)))=true:=Φ
def aji:((fqR.pinned == fqR.pinnedBy))=true:=Φ
def ajh:((fqR.veiled == (f4.params.toList++fqS.plain.varTypes fqP++f4.resultTypes.toList).any (fqP.veiledRec ·)))=true:=Φ
def ajg:(fqR.veiledFits fqP f4.params.toList (f4.params.toList++fqS.plain.varTypes fqP++f4.resultTypes.toList))=true:=Φ
set_option maxRecDepth 100000 in
def ab5:joinedFacts pinned.checked.prog 4 f4 Rows.partialFillsSpec Rows.partialFillsRow=true:=by unfold joinedFacts;exact(cH (cH (cH (cH (cH (cH (cH (cH (cH (cH (cH (cH (cH (cH (cH (cH (cH (cH (cH (cH (cH (cH (cH (cH (cH (cH (cH (cH (cH (cH (cH fq0 fq1) fq2) fq3) fq4) fq5) fq6) fq7) fq8) fq9) ajB) ajA) ajz) ajy) ajx) ajw) ajv) aju) ajt) ajs) ajr) ajq) ajp) ajo) ajn) ajm) ajl) ajk) ajj) aji) ajh) ajg)
