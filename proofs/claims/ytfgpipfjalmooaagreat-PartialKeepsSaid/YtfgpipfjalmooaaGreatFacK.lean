/- The closed facts of the row PartialKeeps. -/
import Derived.Test.YtfgpipfjalmooaaGreatAl
import Derived.Test.YtfgpipfjalmooaaGreatRows
import Derived.JoinedOf
set_option linter.all false
namespace Go.Proofs.YtfgpipfjalmooaaGreat
namespace Abs
open Go Go.Proofs Tryz
noncomputable abbrev fqP:=pinned.checked.prog
abbrev fqR:=Rows.partialKeepsRow
abbrev fqS:=Rows.partialKeepsSpec
def cG {a b:Bool}(h:a=true)(k:b=true):(a&&b)=true:=by rw[h,k];rfl
def fq0:(fqR.wf (OpenSpec.ofChange fqS))=true:=Φ
def fq1:(laidOutB fqP)=true:=Φ
def fq2:(mapsRowed fqP)=true:=Φ
def fq3:(f3.params.all (fqP.readableRec ·))=true:=Φ
def fq4:(namedTie fqP fqR.named fqS.vars)=true:=Φ
def fq5:((fqR.stops == []))=true:=Φ
def fq6:((fqP.stops == []))=true:=Φ
def fq7:((fqR.knobs == []))=true:=Φ
def fq8:((fqP.stopKnobs == []))=true:=Φ
def fq9:((fqR.inPlace == fqP.inPlace 3))=true:=Φ
def akc:((fqR.unfollowed == fqP.unfollowed 3))=true:=Φ
def akb:((fqR.recurses == fqP.recurses 3))=true:=Φ
def aka:((fqR.named == fqP.varsNamed 3))=true:=Φ
def aj9:((fqR.maps == (f3.params.toList++fqS.plain.varTypes fqP).any (fqP.mapsRec ·)))=true:=Φ
def aj8:((fqR.ifaces == (f3.params.toList++fqS.plain.varTypes fqP).any (fqP.ifacesRec ·)))=true:=Φ
def aj7:((fqR.mapsOut == fqP.mapsAmong f3.resultTypes.toList))=true:=Φ
def aj6:((fqR.loops == (f3.params.toList++fqS.plain.varTypes fqP).any (fqP.loopsFrom ·)))=true:=Φ
def aj5:((fqR.wideKeys == (f3.params.toList++fqS.plain.varTypes fqP++f3.resultTypes.toList).any (fqP.wideKeysFrom ·)))=true:=Φ
def aj4:(fqS.vars.all (fqP.varReadable ·))=true:=Φ
def aj3:(f3.resultTypes.all (λt=>fqP.readableRec t&&decide (t<fqP.types.size)))=true:=Φ
def aj2:((fqR.ifacesOut == f3.resultTypes.toList.any (fqP.ifacesRec ·)))=true:=Φ
def aj1:((fqR.loopsOut == f3.resultTypes.toList.any (fqP.loopsFrom ·)))=true:=Φ
def aj0:((fqR.plainKeys == fqP.plainKeys))=true:=Φ
def ajZ:(fqR.shortTexts.isNone)=true:=Φ
def ajY:(fqP.stopsHeard)=true:=Φ
def ajX:(fqP.mayEnter)=true:=Φ
def ajW:((fqR.lifted == fqP.liftsFinal))=true:=Φ
def ajV:((fqP.make == some fqR.make))=true:=Φ
def ajU:((fqR.kinds == (if fqR.domain.isEmpty then[]else f3.params.toList.map λt=>match fqP.underlying t with|some (.int k)=>some k|_=>none)))=true:=Φ
def ajT:((fqR.pinned == fqR.pinnedBy))=true:=Φ
def ajS:((fqR.veiled == (f3.params.toList++fqS.plain.varTypes fqP++f3.resultTypes.toList).any (fqP.veiledRec ·)))=true:=Φ
def ajR:(fqR.veiledFits fqP f3.params.toList (f3.params.toList++fqS.plain.varTypes fqP++f3.resultTypes.toList))=true:=Φ
set_option maxRecDepth 100000 in
def ab5:joinedFacts pinned.checked.prog 3 f3 Rows.partialKeepsSpec Rows.partialKeepsRow=true:=by unfold joinedFacts;exact(cG (cG (cG (cG (cG (cG (cG (cG (cG (cG (cG (cG (cG (cG (cG (cG (cG (cG (cG (cG (cG (cG (cG (cG (cG (cG (cG (cG (cG (cG (cG fq0 fq1) fq2) fq3) fq4) fq5) fq6) fq7) fq8) fq9) akc) akb) aka) aj9) aj8) aj7) aj6) aj5) aj4) aj3) aj2) aj1) aj0) ajZ) ajY) ajX) ajW) ajV) ajU) ajT) ajS) ajR)
