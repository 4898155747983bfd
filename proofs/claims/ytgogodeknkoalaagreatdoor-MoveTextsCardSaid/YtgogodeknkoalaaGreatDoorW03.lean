/- What the functions of rows compute (redressref03): in plain words. -/
import Derived.Test.YtgogodeknkoalaaGreatDoorW00
import Derived.Test.YtgogodeknkoalaaGreatDoorM2
import Derived.Lib.SlTrimSet
namespace Go.Proofs.YtgogodeknkoalaaGreatDoor.Sv
open Go Go.Sv Go.Rd
set_option linter.unusedVariables false
set_option linter.unusedSimpArgs false
/-- How many nodes the first tree has; 0: there is none. -/
def sz (l : List Nd) : Nat := match P l with | some (t, _) => t.size | none => 0
theorem empty_lit [Dfr] : (⟨#[]⟩ : ByteArray) = ByteArray.empty := rfl
theorem P_len [Dfr] {l : List Nd} : one l = decide (sz l = l.length ∧ 1 ≤ l.length) := by
  unfold one sz
  cases h : P l with
  | none =>
    by_cases h1 : l.length = 0
    · simp [h1]
    · simp; omega
  | some q =>
    obtain ⟨t, r⟩ := q
    obtain ⟨h1, h2⟩ := P_some h
    have := congrArg List.length h2
    rw [List.length_append, T.len_row] at this
    have hp := t.size_pos
    cases r with
    | nil => simp at this ⊢; omega
    | cons x r => simp at this ⊢; omega
/-- The trees behind the first node. -/
def kidsR (l : List Nd) : List (List Nd) := match P l with | some (t, _) => t.kids.map T.row | none => []
theorem take_drop_row [Dfr] {l : List Nd} {i : Nat} {a : T} {r : List Nd} (h : l.drop i = a.row ++ r) : cut l (i : Int) ((i + a.size : Nat) : Int) = a.row ∧ l.drop (i + a.size) = r ∧ i + a.size ≤ l.length ∧ cutOk (i : Int) ((i + a.size : Nat) : Int) l.length = true := by
  have hlen := congrArg List.length h
  rw [List.length_drop, List.length_append, T.len_row] at hlen
  have hp := a.size_pos
  refine ⟨?_, ?_, by omega, cutOk_nat (by omega) (by omega)⟩
  · rw [cut_nat, List.drop_take, h]
    rw [show i + a.size - i = a.row.length by rw [T.len_row]; omega, List.take_left]
  · rw [← List.drop_drop, h, ← T.len_row, List.drop_left]
theorem kidsR_tm [Dfr] (m : Tm) : kidsR m.row = m.t.kids.map T.row := by
  unfold kidsR
  rw [show P m.row = some (m.t, []) from P_row' m.t_ok]
end Go.Proofs.YtgogodeknkoalaaGreatDoor.Sv
