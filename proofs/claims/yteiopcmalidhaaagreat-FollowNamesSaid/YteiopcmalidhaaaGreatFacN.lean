/- The closed facts of the row FollowNames. -/
import Derived.Test.YteiopcmalidhaaaGreatAl
import Derived.Test.YteiopcmalidhaaaGreatRows
import Derived.JoinedOf
set_option linter.all false
namespace Go.Proofs.YteiopcmalidhaaaGreat
namespace Abs
open Go Go.Proofs Tryz
noncomputable abbrev fqP:=pinned.checked.prog
abbrev fqR:=Rows.followNamesRow
abbrev fqS:=Rows.followNamesSpec
def cJ {a b:Bool}(h:a=true)(k:b=true):(a&&b)=true:=by rw[h,k];rfl
def fq0:(fqR.wf (OpenSpec.ofChange fqS))=true:=Φ
def fq1:(laidOutB fqP)=true:=Φ
def fq2:(mapsRowed fqP)=true:=Φ
def fq3:(f3.params.all (fqP.readableRec ·))=true:=Φ
def fq4:(namedTie fqP fqR.named fqS.vars)=true:=Φ
def fq5:((fqR.stops == []))=true:=Φ
def fq6:((fqP.stops == []))=true:=Φ
def fq7:((fqR.knobs == []))=true:=Φ
def fq8:((fqP.stopKnobs == []))=true:=Φ
def fq9:((fqR.inPlace == fqP.inPlace 3))=true:=Φ
def ain:((fqR.unfollowed == fqP.unfollowed 3))=true:=Φ
def aim:((fqR.recurses == fqP.recurses 3))=true:=Φ
def ail:((fqR.named == fqP.varsNamed 3))=true:=Φ
def aik:((fqR.maps == (f3.params.toList++fqS.plain.varTypes fqP).any (fqP.mapsRec ·)))=true:=Φ
def aij:((fqR.ifaces == (f3.params.toList++fqS.plain.varTypes fqP).any (fqP.ifacesRec ·)))=true:=Φ
def aii:((fqR.mapsOut == fqP.mapsAmong f3.resultTypes.toList))=true:=Φ
def aih:((fqR.loops == (f3.params.toList++fqS.plain.varTypes fqP).any (fqP.loopsFrom ·)))=true:=Φ
def aig:((fqR.wideKeys == (f3.params.toList++fqS.plain.varTypes fqP++f3.resultTypes.toList).any (fqP.wideKeysFrom ·)))=true:=Φ
def aif:(fqS.vars.all (fqP.varReadable ·))=true:=Φ
def aie:(f3.resultTypes.all (λt=>fqP.readableRec t&&decide (t<fqP.types.size)))=true:=Φ
def aid:((fqR.ifacesOut == f3.resultTypes.toList.any (fqP.ifacesRec ·)))=true:=Φ
def aic:((fqR.loopsOut == f3.resultTypes.toList.any (fqP.loopsFrom ·)))=true:=Φ
def aib:((fqR.plainKeys == fqP.plainKeys))=true:=Φ
def aia:(fqR.shortTexts.isNone)=true:=Φ
def ah9:(fqP.stopsHeard)=true:=Φ
def ah8:(fqP.mayEnter)=true:=Φ
def ah7:((fqR.lifted == fqP.liftsFinal))=true:=Φ
def ah6:((fqP.make == some fqR.make))=true:=Φ
def ah5:((fqR.kinds == (if fqR.domain.isEmpty then[]else f3.params.toList.map λt=>match fqP.underlying t with|some (.int k)=>some k|_=>none)))=true:=Φ
def ah4:((fqR.pinned == fqR.pinnedBy))=true:=Φ
def ah3:((fqR.veiled == (f3.params.toList++fqS.plain.varTypes fqP++f3.resultTypes.toList).any (fqP.veiledRec ·)))=true:=Φ
def ah2:(fqR.veiledFits fqP f3.params.toList (f3.params.toList++fqS.plain.varTypes fqP++f3.resultTypes.toList))=true:=Φ
set_option maxRecDepth 100000 in
def Zd:joinedFacts pinned.checked.prog 3 f3 Rows.followNamesSpec Rows.followNamesRow=true:=by unfold joinedFacts;exact(cJ (cJ (cJ (cJ (cJ (cJ (cJ (cJ (cJ (cJ (cJ (cJ (cJ (cJ (cJ (cJ (cJ (cJ (cJ (cJ (cJ (cJ (cJ (cJ (cJ (cJ (cJ (cJ (cJ (cJ (cJ fq0 fq1) fq2) fq3) fq4) fq5) fq6) fq7) fq8) fq9) ain) aim) ail) aik) aij) aii) aih) aig) aif) aie) aid) aic) aib) aia) ah9) ah8) ah7) ah6) ah5) ah4) ah3) ah2)
