/- The laws of traces: what they tell. -/
import Derived.Test.YtdbabacjmkfkgaaGreatDoorW02
namespace Go.Proofs.YtdbabacjmkfkgaaGreatDoor.Sv
open Go Go.Sv Go.Rd
set_option linter.unusedVariables false
set_option linter.unusedSimpArgs false
/-- What the program's own traces keep. -/
def wfT (t : Tc) : Prop := (t.1.length ≤ reachBytes ∧ ∀ x ∈ t.1, x.size ≤ reachBytes) ∧ (Lit.int .i64 t.2).wf = true
def wfTs (l : List Tc) : Prop := l.length ≤ reachBytes ∧ ∀ x ∈ l, wfT x
theorem wfT.len [Dfr] {t : Tc} (h : wfT t) : t.1.length ≤ 140737488351232 := h.1.1
theorem wfTs.short [Dfr] {l : List Tc} (h : wfTs l) : shortT l := fun x hx => by have := (h.2 x hx).len; omega
end Go.Proofs.YtdbabacjmkfkgaaGreatDoor.Sv
