/- The types of this program, as data. (Printed by gen.py.) -/
import Derived.Test.YtfeijnbommgigaaAbsA
namespace Go.Proofs.Ytfeijnbommgigaa.Abs
abbrev tInt : Ty := .int .i64
abbrev tVal : Ty := (.cons tInt (.cons .bool (.cons .str (.cons tInt .unit))))
abbrev tDraw : Ty := (.cons tInt (.cons tInt (.cons tInt (.cons tInt .unit))))
abbrev tRecord : Ty := (.cons tInt (.cons tInt (.cons (.slice tVal) (.cons tVal .unit))))
abbrev tAlt : Ty := (.cons tInt (.cons tVal .unit))
abbrev tRegion : Ty := (.cons tInt (.cons tInt (.cons tInt (.cons (.slice tAlt) (.cons (.slice tInt) .unit)))))
end Go.Proofs.Ytfeijnbommgigaa.Abs
