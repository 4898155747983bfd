/- What the reference's functions of layer 12 compute: in plain words. -/
import Derived.Test.YtjogkjgpbeenfaaDoorW12
import Derived.Test.YtjogkjgpbeenfaaDoorR11
namespace Go.Proofs.YtjogkjgpbeenfaaDoor.Sv
open Go Go.Sv Go.Rd
set_option linter.unusedVariables false
set_option linter.unusedSimpArgs false
