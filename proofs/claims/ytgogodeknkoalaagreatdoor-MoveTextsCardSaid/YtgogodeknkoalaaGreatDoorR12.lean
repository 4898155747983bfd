/- What the reference's functions of layer 12 compute: in plain words. -/
import Derived.Test.YtgogodeknkoalaaGreatDoorW12
import Derived.Test.YtgogodeknkoalaaGreatDoorR11
namespace Go.Proofs.YtgogodeknkoalaaGreatDoor.Sv
open Go Go.Sv Go.Rd
set_option linter.unusedVariables false
set_option linter.unusedSimpArgs false
theorem ref12_Same_l0s [Dfr] (xs ys : List Mv) (b : Bool) (hx : xs.length ≤ 1000000) (hl : xs.length = ys.length) : ∀ (r : List Mv) (i : Nat), xs.drop i = r → ref12_Same_l0 xs ys b (i : Int) = some (if r = ys.drop i then (0, b) else (1, false))
  | [], i, h => by
    obtain ⟨h1, h2⟩ := drop_nil h
    rw [ref12_Same_l0_eq]
    have : ys.drop i = [] := List.drop_eq_nil_of_le (by omega)
    simp only [h2, cond_false]
    simp [this]
  | x :: r, i, h => by
    obtain ⟨h1, h2, h3, h4, h5, h6⟩ := drop_cons h
    obtain ⟨y, s, hy⟩ : ∃ y s, ys.drop i = y :: s := by
      cases e : ys.drop i with
      | nil => have := drop_nil e; omega
      | cons y s => exact ⟨y, s, rfl⟩
    obtain ⟨k1, k2, k3, k4, k5, k6⟩ := drop_cons hy
    rw [ref12_Same_l0_eq]
    simp only [h2, h3, h4, k3, k4, cond_true, mv_eq, w_succ (show i < 9223372036854775807 by omega), ref12_Same_l0s xs ys b hx hl r (i + 1) h5, hy, k5]
    by_cases e : x = y
    · subst e
      by_cases e2 : r = s <;> simp [e2]
    · rw [decide_eq_false e, Bool.not_false, cond_true, if_neg (fun h => e (List.cons.inj h).1)]
theorem ref12_Same_s [Dfr] (xs ys : List Mv) (hx : xs.length ≤ 1000000) : ref12_Same xs ys = some (decide (xs = ys)) := by
  rw [ref12_Same_eq]
  by_cases hl : xs.length = ys.length
  · have h1 : ((xs.length : Int) != (ys.length : Int)) = false := by simp [hl]
    have := ref12_Same_l0s xs ys false hx hl xs 0 rfl
    simp only [Int.natCast_zero, List.drop_zero] at this
    simp only [h1, cond_false, this, Option.bind_some]
    by_cases e : xs = ys <;> simp [e, Nat.beq]
  · have h1 : ((xs.length : Int) != (ys.length : Int)) = true := by simp; omega
    have h2 : xs ≠ ys := fun e => hl (by rw [e])
    simp [h1, h2]
end Go.Proofs.YtgogodeknkoalaaGreatDoor.Sv
