/- The laws of settling: what each tells. -/
import Derived.Test.YtgogodeknkoalaaGreatDoorW10
import Derived.Test.YtgogodeknkoalaaGreatDoorM5
namespace Go.Proofs.YtgogodeknkoalaaGreatDoor.Sv
open Go Go.Sv Go.Rd
set_option linter.unusedVariables false
set_option linter.unusedSimpArgs false
theorem settleR_row [Dfr] {m : Tm} (hf : m.fine) (hs : m.size ≤ 200) (ho : m.po = true ∨ m.qo = true) : settleR m.row = m.st.row := by
  unfold settleR
  rw [tmOf_some.2 ⟨rfl, hf, hs⟩]
  simp [ho]
/-- What comes of a row: nothing, or of a tree that goes on. -/
theorem settleR_cases [Dfr] (l : List Nd) : settleR l = [] ∨ ∃ m : Tm, l = m.row ∧ m.fine ∧ m.size ≤ 200 ∧ (m.po = true ∨ m.qo = true) ∧ settleR l = m.st.row ∧ sOf l = m.so := by
  unfold settleR sOf
  cases h : tmOf l with
  | none => exact .inl rfl
  | some m =>
    obtain ⟨rfl, h2, h3⟩ := tmOf_some.1 h
    by_cases ho : m.po = true ∨ m.qo = true
    · exact .inr ⟨m, rfl, h2, h3, ho, by simp [ho], rfl⟩
    · exact .inl (by simp [ho])
end Go.Proofs.YtgogodeknkoalaaGreatDoor.Sv
