/- What the reference's functions of layer 7 compute: in plain words. -/
import Derived.Test.YtdbabacjmkfkgaaGreatDoorW07
namespace Go.Proofs.YtdbabacjmkfkgaaGreatDoor.Sv
open Go Go.Sv Go.Rd
set_option linter.unusedVariables false
set_option linter.unusedSimpArgs false

/- The reference's traces and pairs of terms that are small; what is told of rows. -/
namespace Go.Proofs.YtdbabacjmkfkgaaGreatDoor.Sv
open Go Go.Sv Go.Rd
set_option linter.unusedVariables false
set_option linter.unusedSimpArgs false
