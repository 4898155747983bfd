/- Rows whose actions may be refused. Plain Lean, no program in sight. -/
import Derived.Test.YtdbabacjmkfkgaaGreatDoorM3
namespace Go.Rd
open Go Go.Sv
set_option linter.unusedVariables false
set_option linter.unusedSimpArgs false
/-- An action of one of the names. -/
def hit (names : List ByteArray) (n : Nd) : Bool := decide (n.1 = 1) && decide (n.2.1 ∈ names)
/-! ### trees, rewritten -/
def T.rw (ns : List ByteArray) : T → T
  | .n0 n => bif hit ns n then .n2 (nd 6) (.n0 n) (.n0 (nd 3)) else .n0 n
  | .n1 n a => .n1 n (a.rw ns)
  | .n2 n a b => .n2 n (a.rw ns) (b.rw ns)
namespace Tm
end Tm
end Go.Rd
