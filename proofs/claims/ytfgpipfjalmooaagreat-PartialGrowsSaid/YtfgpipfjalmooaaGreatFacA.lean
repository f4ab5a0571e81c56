/- The closed facts of the row PartialGrows. -/
import Derived.Test.YtfgpipfjalmooaaGreatAl
import Derived.Test.YtfgpipfjalmooaaGreatRows
import Derived.JoinedOf
set_option linter.all false
namespace Go.Proofs.YtfgpipfjalmooaaGreat
namespace Abs
open Go Go.Proofs Tryz
noncomputable abbrev fqP:=pinned.checked.prog
abbrev fqR:=Rows.partialGrowsRow
abbrev fqS:=Rows.partialGrowsSpec
def cH {a b:Bool}(h:a=true)(k:b=true):(a&&b)=true:=by rw[h,k];rfl
def fq0:(fqR.wf (OpenSpec.ofChange fqS))=true:=Φ
def fq1:(laidOutB fqP)=true:=Φ
def fq2:(mapsRowed fqP)=true:=Φ
def fq3:(f6.params.all (fqP.readableRec ·))=true:=Φ
def fq4:(namedTie fqP fqR.named fqS.vars)=true:=Φ
def fq5:((fqR.stops == []))=true:=Φ
def fq6:((fqP.stops == []))=true:=Φ
def fq7:((fqR.knobs == []))=true:=Φ
def fq8:((fqP.stopKnobs == []))=true:=Φ
def fq9:((fqR.inPlace == fqP.inPlace 6))=true:=Φ
def aiD:((fqR.unfollowed == fqP.unfollowed 6))=true:=Φ
def aiC:((fqR.recurses == fqP.recurses 6))=true:=Φ
def aiB:((fqR.named == fqP.varsNamed 6))=true:=Φ
def aiA:((fqR.maps == (f6.params.toList++fqS.plain.varTypes fqP).any (fqP.mapsRec ·)))=true:=Φ
def aiz:((fqR.ifaces == (f6.params.toList++fqS.plain.varTypes fqP).any (fqP.ifacesRec ·)))=true:=Φ
def aiy:((fqR.mapsOut == fqP.mapsAmong f6.resultTypes.toList))=true:=Φ
def aix:((fqR.loops == (f6.params.toList++fqS.plain.varTypes fqP).any (fqP.loopsFrom ·)))=true:=Φ
def aiw:((fqR.wideKeys == (f6.params.toList++fqS.plain.varTypes fqP++f6.resultTypes.toList).any (fqP.wideKeysFrom ·)))=true:=Φ
def aiv:(fqS.vars.all (fqP.varReadable ·))=true:=Φ
def aiu:(f6.resultTypes.all (λt=>fqP.readableRec t&&decide (t<fqP.types.size)))=true:=Φ
def ait:((fqR.ifacesOut == f6.resultTypes.toList.any (fqP.ifacesRec ·)))=true:=Φ
def ais:((fqR.loopsOut == f6.resultTypes.toList.any (fqP.loopsFrom ·)))=true:=Φ
def air:((fqR.plainKeys == fqP.plainKeys))=true:=Φ
def aiq:(fqR.shortTexts.isNone)=true:=Φ
def aip:(fqP.stopsHeard)=true:=Φ
def aio:(fqP.mayEnter)=true:=Φ
def ain:((fqR.lifted == fqP.liftsFinal))=true:=Φ
def aim:((fqP.make == some fqR.make))=true:=Φ
def ail:((fqR.kinds == (if fqR.domain.isEmpty then[]else f6.params.toList.map λt=>match fqP.underlying t with|some (.int k)=>some k|_=>none)))=true:=Φ
def aik:((fqR.pinned == fqR.pinnedBy))=true:=Φ
def aij:((fqR.veiled == (f6.params.toList++fqS.plain.varTypes fqP++f6.resultTypes.toList).any (fqP.veiledRec ·)))=true:=Φ
def aii:(fqR.veiledFits fqP f6.params.toList (f6.params.toList++fqS.plain.varTypes fqP++f6.resultTypes.toList))=true:=Φ
set_option maxRecDepth 100000 in
def ZV:joinedFacts pinned.checked.prog 6 f6 Rows.partialGrowsSpec Rows.partialGrowsRow=true:=by unfold joinedFacts;exact(cH (cH (cH (cH (cH (cH (cH (cH (cH (cH (cH (cH (cH (cH (cH (cH (cH (cH (cH (cH (cH (cH (cH (cH (cH (cH (cH (cH (cH (cH (cH fq0 fq1) fq2) fq3) fq4) fq5) fq6) fq7) fq8) fq9) aiD) aiC) aiB) aiA) aiz) aiy) aix) aiw) aiv) aiu) ait) ais) air) aiq) aip) aio) ain) aim) ail) aik) aij) aii)
