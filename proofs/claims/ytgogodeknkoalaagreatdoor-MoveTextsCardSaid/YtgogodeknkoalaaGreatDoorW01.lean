/- What the functions of signs compute (package sign, redressref01): in plain words. -/
import Derived.Test.YtgogodeknkoalaaGreatDoorW00
namespace Go.Proofs.YtgogodeknkoalaaGreatDoor.Sv
open Go Go.Sv Go.Rd
set_option linter.unusedVariables false
set_option linter.unusedSimpArgs false
theorem emp [Dfr] : (ByteArray.empty.toList == ByteArray.empty.toList) = true := beq_self_eq_true _
theorem sign_Is_s [Dfr] (x : Int) : sign_Is x = some (signB x) := by
  rw [sign_Is_eq]
  unfold signB
  by_cases h : x ≥ 1
  · rw [decide_eq_true h]; simp
  · rw [decide_eq_false h]; rfl
theorem sign_Both_s [Dfr] (x y : Int) : sign_Both x y = some (bs x y) := by
  rw [sign_Both_eq]
  simp only [sign_Is_s, Option.bind_some, int_eq, bs]
  cases signB x <;> cases signB y <;> simp
  by_cases h1 : x = 2 <;> by_cases h2 : y = 2 <;> simp [h1, h2]
end Go.Proofs.YtgogodeknkoalaaGreatDoor.Sv
