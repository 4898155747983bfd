/- The laws of traces: what they tell. -/
import Derived.Test.YtabhofdbgmdjkaaGreatDoorW02
namespace Go.Proofs.YtabhofdbgmdjkaaGreatDoor.Sv
open Go Go.Sv Go.Rd
set_option linter.unusedVariables false
set_option linter.unusedSimpArgs false
/-- What the program's own traces keep. -/
def wfT (t : Tc) : Prop := (t.1.length ≤ reachBytes ∧ ∀ x ∈ t.1, x.size ≤ reachBytes) ∧ (Lit.int .i64 t.2).wf = true
def wfTs (l : List Tc) : Prop := l.length ≤ reachBytes ∧ ∀ x ∈ l, wfT x
theorem wfT.len [Dfr] {t : Tc} (h : wfT t) : t.1.length ≤ 140737488351232 := h.1.1
theorem wfTs.short [Dfr] {l : List Tc} (h : wfTs l) : shortT l := fun x hx => by have := (h.2 x hx).len; omega
theorem law02_Olds_l0s [Dfr] (xs : List Tc) (hx : xs.length ≤ 1000000000) : ∀ (r : List Tc) (i : Nat) (acc : List Tc), xs.drop i = r → acc.length ≤ i → law02_Olds_l0 acc xs (xs.length : Int) (i : Int) = some (0, acc ++ r)
  | [], i, acc, h, ha => by
    obtain ⟨h1, h2⟩ := drop_nil h
    rw [law02_Olds_l0_eq]
    simp only [h2, cond_false, List.append_nil]
  | x :: r, i, acc, h, ha => by
    obtain ⟨h1, h2, h3, h4, h5, h6⟩ := drop_cons h
    rw [law02_Olds_l0_eq]
    simp only [h2, h3, h4, cond_true, room (show (acc.length + 1) * 32 ≤ 140737488355328 by omega), w_succ (show i < 9223372036854775807 by omega), law02_Olds_l0s xs hx r (i + 1) (acc ++ [x]) h5 (by simp; omega), List.append_assoc, List.singleton_append]
theorem law02_Olds_s [Dfr] (xs : List Tc) (hx : xs.length ≤ 1000000000) : law02_Olds xs = some xs := by
  have e := law02_Olds_l0s xs hx xs 0 [] rfl (by simp)
  rw [Int.natCast_zero] at e
  rw [law02_Olds_eq, e]; rfl
end Go.Proofs.YtabhofdbgmdjkaaGreatDoor.Sv
