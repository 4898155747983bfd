/- What the reference's functions of layer 11 compute: in plain words. -/
import Derived.Test.YtjogkjgpbeenfaaDoorW11b
namespace Go.Proofs.YtjogkjgpbeenfaaDoor.Sv
open Go Go.Sv Go.Rd
set_option linter.unusedVariables false
set_option linter.unusedSimpArgs false
end Go.Proofs.YtjogkjgpbeenfaaDoor.Sv
