/- What the reference's functions of layer 11 compute: in plain words. -/
import Derived.Test.YtgogodeknkoalaaGreatDoorW11b
namespace Go.Proofs.YtgogodeknkoalaaGreatDoor.Sv
open Go Go.Sv Go.Rd
set_option linter.unusedVariables false
set_option linter.unusedSimpArgs false
end Go.Proofs.YtgogodeknkoalaaGreatDoor.Sv
