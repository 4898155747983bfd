/- Of what is settled: how it may look, that it is less. Plain Lean, no program in sight. -/
import Derived.Test.YtgogodeknkoalaaGreatDoorM4
namespace Go.Rd
open Go Go.Sv
set_option linter.unusedVariables false
set_option linter.unusedSimpArgs false
def wfNd (n : Nd) : Prop := (Lit.int .i64 n.1).wf = true ∧ n.2.1.size ≤ reachBytes ∧ (Lit.int .i64 n.2.2).wf = true
def wfRow (l : List Nd) : Prop := l.length ≤ reachBytes ∧ ∀ x ∈ l, wfNd x
theorem wfRow.names {l : List Nd} (h : wfRow l) : ∀ n ∈ l, n.2.1.size ≤ 9223372036854775807 := fun n hn => by
  have := (h.2 n hn).2.1
  unfold reachBytes at this
  omega
namespace Tm
section
variable (w : Nd → Nat)
/-- What settling makes weighs nothing. -/
structure Light : Prop where
  skip : w (nd 2) = 0
  over : ∀ s, w (11, ByteArray.empty, s) = 0
  fin : ∀ s, w (14, ByteArray.empty, s) = 0
  seq : w (nd 5) = 0
  stack : w (nd 13) = 0
end
end Tm
end Go.Rd
