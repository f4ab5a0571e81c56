/- Parts of a clone. -/
import Derived.Test.YtfgpipfjalmooaaGreatGenH
set_option linter.all false
namespace Go.Proofs.YtfgpipfjalmooaaGreat
namespace Abs
abbrev ao:Ty:=(.cons tCommit (.cons tInt .unit))
abbrev La':=List ao.den
open Go
