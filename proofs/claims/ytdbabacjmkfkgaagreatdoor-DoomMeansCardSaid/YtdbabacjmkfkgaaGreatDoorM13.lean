/- What is settled means what it meant; what may be refused; what will end by a throw. Plain Lean, no program in sight. -/
import Derived.Test.YtdbabacjmkfkgaaGreatDoorM10
import Derived.Test.YtdbabacjmkfkgaaGreatDoorM5
import Derived.Test.YtdbabacjmkfkgaaGreatDoorM8
namespace Go.Rd
open Go Go.Sv
set_option linter.unusedVariables false
set_option linter.unusedSimpArgs false
namespace Tm
end Tm
end Go.Rd
