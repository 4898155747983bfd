/- The laws of refusing: what each tells. -/
import Derived.Test.YthhefjmdfdckjaaGreatDoorW08
import Derived.Test.YthhefjmdfdckjaaGreatDoorM5
namespace Go.Proofs.YthhefjmdfdckjaaGreatDoor.Sv
open Go Go.Sv Go.Rd
set_option linter.unusedVariables false
set_option linter.unusedSimpArgs false

theorem law08_alive_s [Dfr] : law08_alive = some true := by
  have := law08_alive_eq
  exact (law08_alive_lim.iff _).2 ⟨20, by kernel_rfl⟩

theorem law08_few_s [Dfr] (l : List Nd) : law08_few l = some (decide (l.length ≤ 120 ∧ dep l ≤ 24)) := by
  rw [law08_few_eq]
  by_cases h : l.length ≤ 120
  · have e : decide ((l.length : Int) ≤ 120) = true := decide_eq_true (by omega)
    simp only [e, cond_true, ref03_Depth_s l (by omega), Option.bind_some, h, true_and]
    congr 1
    rw [decide_eq_decide]; omega
  · have e : decide ((l.length : Int) ≤ 120) = false := decide_eq_false (by omega)
    simp only [e, cond_false, h, false_and, decide_false]

end Go.Proofs.YthhefjmdfdckjaaGreatDoor.Sv
