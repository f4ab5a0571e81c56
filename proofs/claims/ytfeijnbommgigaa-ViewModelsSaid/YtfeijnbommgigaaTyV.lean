/- The types of this program, as data. (Printed by gen.py.) -/
import Derived.Test.YtfeijnbommgigaaAbsA
namespace Go.Proofs.Ytfeijnbommgigaa.Abs
abbrev tInt : Ty := .int .i64
abbrev tMark : Ty := (.cons tInt (.cons tInt (.cons tInt .unit)))
abbrev tVal : Ty := (.cons tInt (.cons .bool (.cons .str (.cons tInt .unit))))
abbrev tAlt : Ty := (.cons tInt (.cons tVal .unit))
abbrev tSlot : Ty := (.cons tInt (.cons tInt (.cons (.slice tAlt) .unit)))
abbrev tState : Ty := (.cons (.slice tSlot) .unit)
abbrev tCell : Ty := (.cons tInt (.cons tInt (.cons tVal .unit)))
abbrev tModel : Ty := (.cons (.slice tCell) .unit)
abbrev tRegion : Ty := (.cons tInt (.cons tInt (.cons tInt (.cons (.slice tAlt) (.cons (.slice tInt) .unit)))))
abbrev tPlace : Ty := (.cons tInt (.cons tInt .unit))
abbrev tStanding : Ty := (.cons tPlace (.cons tInt .unit))
end Go.Proofs.Ytfeijnbommgigaa.Abs
