/- The closed facts of the row PartialWhole. -/
import Derived.Test.YtfgpipfjalmooaaGreatAl
import Derived.Test.YtfgpipfjalmooaaGreatRows
import Derived.JoinedOf
set_option linter.all false
namespace Go.Proofs.YtfgpipfjalmooaaGreat
namespace Abs
open Go Go.Proofs Tryz
noncomputable abbrev fqP:=pinned.checked.prog
abbrev fqR:=Rows.partialWholeRow
abbrev fqS:=Rows.partialWholeSpec
def cH {a b:Bool}(h:a=true)(k:b=true):(a&&b)=true:=by rw[h,k];rfl
def fq0:(fqR.wf (OpenSpec.ofChange fqS))=true:=Φ
def fq1:(laidOutB fqP)=true:=Φ
def fq2:(mapsRowed fqP)=true:=Φ
def fq3:(f5.params.all (fqP.readableRec ·))=true:=Φ
def fq4:(namedTie fqP fqR.named fqS.vars)=true:=Φ
def fq5:((fqR.stops == []))=true:=Φ
def fq6:((fqP.stops == []))=true:=Φ
def fq7:((fqR.knobs == []))=true:=Φ
def fq8:((fqP.stopKnobs == []))=true:=Φ
def fq9:((fqR.inPlace == fqP.inPlace 5))=true:=Φ
def ajT:((fqR.unfollowed == fqP.unfollowed 5))=true:=Φ
def ajS:((fqR.recurses == fqP.recurses 5))=true:=Φ
def ajR:((fqR.named == fqP.varsNamed 5))=true:=Φ
def ajQ:((fqR.maps == (f5.params.toList++fqS.plain.varTypes fqP).any (fqP.mapsRec ·)))=true:=Φ
def ajP:((fqR.ifaces == (f5.params.toList++fqS.plain.varTypes fqP).any (fqP.ifacesRec ·)))=true:=Φ
def ajO:((fqR.mapsOut == fqP.mapsAmong f5.resultTypes.toList))=true:=Φ
def ajN:((fqR.loops == (f5.params.toList++fqS.plain.varTypes fqP).any (fqP.loopsFrom ·)))=true:=Φ
def ajM:((fqR.wideKeys == (f5.params.toList++fqS.plain.varTypes fqP++f5.resultTypes.toList).any (fqP.wideKeysFrom ·)))=true:=Φ
def ajL:(fqS.vars.all (fqP.varReadable ·))=true:=Φ
def ajK:(f5.resultTypes.all (λt=>fqP.readableRec t&&decide (t<fqP.types.size)))=true:=Φ
def ajJ:((fqR.ifacesOut == f5.resultTypes.toList.any (fqP.ifacesRec ·)))=true:=Φ
def ajI:((fqR.loopsOut == f5.resultTypes.toList.any (fqP.loopsFrom ·)))=true:=Φ
def ajH:((fqR.plainKeys == fqP.plainKeys))=true:=Φ
def ajG:(fqR.shortTexts.isNone)=true:=Φ
def ajF:(fqP.stopsHeard)=true:=Φ
def ajE:(fqP.mayEnter)=true:=Φ
def ajD:((fqR.lifted == fqP.liftsFinal))=true:=Φ
def ajC:((fqP.make == some fqR.make))=true:=Φ
def ajB:((fqR.kinds == (if fqR.domain.isEmpty then[]else f5.params.toList.map λt=>match fqP.underlying t with|some (.int k)=>some k|_=>none)))=true:=Φ
def ajA:((fqR.pinned == fqR.pinnedBy))=true:=Φ
def ajz:((fqR.veiled == (f5.params.toList++fqS.plain.varTypes fqP++f5.resultTypes.toList).any (fqP.veiledRec ·)))=true:=Φ
def ajy:(fqR.veiledFits fqP f5.params.toList (f5.params.toList++fqS.plain.varTypes fqP++f5.resultTypes.toList))=true:=Φ
set_option maxRecDepth 100000 in
def abG:joinedFacts pinned.checked.prog 5 f5 Rows.partialWholeSpec Rows.partialWholeRow=true:=by unfold joinedFacts;exact(cH (cH (cH (cH (cH (cH (cH (cH (cH (cH (cH (cH (cH (cH (cH (cH (cH (cH (cH (cH (cH (cH (cH (cH (cH (cH (cH (cH (cH (cH (cH fq0 fq1) fq2) fq3) fq4) fq5) fq6) fq7) fq8) fq9) ajT) ajS) ajR) ajQ) ajP) ajO) ajN) ajM) ajL) ajK) ajJ) ajI) ajH) ajG) ajF) ajE) ajD) ajC) ajB) ajA) ajz) ajy)
