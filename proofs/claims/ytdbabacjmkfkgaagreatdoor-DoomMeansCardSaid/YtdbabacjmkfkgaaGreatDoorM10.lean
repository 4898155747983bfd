/- What follows of meanings. Plain Lean, no program in sight. -/
import Derived.Test.YtdbabacjmkfkgaaGreatDoorM9
namespace Go.Rd
open Go Go.Sv
set_option linter.unusedVariables false
set_option linter.unusedSimpArgs false
namespace Tm
end Tm
end Go.Rd
