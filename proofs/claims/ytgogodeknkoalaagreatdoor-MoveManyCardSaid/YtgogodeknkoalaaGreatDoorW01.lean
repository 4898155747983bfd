/- What the functions of signs compute (package sign, redressref01): in plain words. -/
import Derived.Test.YtgogodeknkoalaaGreatDoorW00
namespace Go.Proofs.YtgogodeknkoalaaGreatDoor.Sv
open Go Go.Sv Go.Rd
set_option linter.unusedVariables false
set_option linter.unusedSimpArgs false
theorem emp [Dfr] : (ByteArray.empty.toList == ByteArray.empty.toList) = true := beq_self_eq_true _
theorem sign_Is_s [Dfr] (x : Int) : sign_Is x = some (signB x) := by
  rw [sign_Is_eq]
  unfold signB
  by_cases h : x ≥ 1
  · rw [decide_eq_true h]; simp
  · rw [decide_eq_false h]; rfl
theorem sign_Both_s [Dfr] (x y : Int) : sign_Both x y = some (bs x y) := by
  rw [sign_Both_eq]
  simp only [sign_Is_s, Option.bind_some, int_eq, bs]
  cases signB x <;> cases signB y <;> simp
  by_cases h1 : x = 2 <;> by_cases h2 : y = 2 <;> simp [h1, h2]
theorem ref01_Is_s [Dfr] (x : Int) : ref01_Is x = some (signB x) := by
  rw [ref01_Is_eq]
  simp only [int_eq]
  by_cases h1 : x = 1
  · subst h1; rfl
  by_cases h2 : x = 2
  · subst h2; rfl
  by_cases h3 : x = 3
  · subst h3; rfl
  have : signB x = false := by
    cases h : signB x with
    | false => rfl
    | true => rcases signB_iff.1 h with h | h | h <;> contradiction
  rw [this]
  simp only [h1, h2, h3, decide_false, cond_false]
theorem ref01_Both_s [Dfr] (x y : Int) : ref01_Both x y = some (bs x y) := by
  rw [ref01_Both_eq]
  simp only [ref01_Is_s, Option.bind_some, int_eq, bs]
  cases hx : signB x <;> cases hy : signB y <;> simp
  rcases signB_iff.1 hx with rfl | rfl | rfl <;> rcases signB_iff.1 hy with rfl | rfl | rfl <;> rfl
end Go.Proofs.YtgogodeknkoalaaGreatDoor.Sv
