/- The types of this program, as data. (Printed by gen.py.) -/
import Derived.Test.YtlipfgaambiklaaAbsA
namespace Go.Proofs.Ytlipfgaambiklaa.Abs
abbrev tInt : Ty := .int .i64
abbrev tVal : Ty := (.cons tInt (.cons .bool (.cons .str (.cons tInt .unit))))
abbrev tCell : Ty := (.cons tInt (.cons tInt (.cons tVal .unit)))
abbrev tModel : Ty := (.cons (.slice tCell) .unit)
abbrev tRegister : Ty := (.cons tInt (.cons tInt .unit))
end Go.Proofs.Ytlipfgaambiklaa.Abs
