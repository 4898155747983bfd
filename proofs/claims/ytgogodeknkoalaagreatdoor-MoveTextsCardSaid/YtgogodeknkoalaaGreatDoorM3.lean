/- Sorts as numbers. Plain Lean, no program in sight. -/
import Derived.Test.YtgogodeknkoalaaGreatDoorM2
namespace Go.Rd
open Go Go.Sv
set_option linter.unusedVariables false
set_option linter.unusedSimpArgs false
def on (s : Int) : Int := if s = 1 ∨ s = 2 then s + 2 else s
def both (a b : Int) : Int := if on a = on b then (if b > a then b else a) else 0
def behind (a b t : Int) : Int := if b = t then (if on a = on t then a else 0) else 0
def so2 (k x y : Int) : Int :=
  if x = 0 then 0 else if y = 0 then 0
  else if k = 6 then (if x > 2 then 0 else if y > 2 then 0 else both x y)
  else if k = 7 then both x y
  else if k = 5 then (if behind x y 2 > behind x y 1 then behind x y 2 else behind x y 1)
  else if k = 8 then behind x y 1
  else if k = 10 then (if x = 1 then (if y = 1 then 2 else 0) else 0)
  else if k = 12 then (if on x = 3 then (if y = 1 then 4 else 0) else 0)
  else if k = 13 then (if on x = 4 then (if y = 1 then 4 else 0) else 0)
  else 0
def so1 (k x : Int) : Int :=
  if x = 0 then 0
  else if k = 9 then (if on x = 4 then x - 1 else 0)
  else if k = 14 then (if x = 1 then 4 else 0)
  else 0
namespace Tm
theorem so_seq (a b : Tm) : (seq a b).so = so2 5 a.so b.so := by
  rcases cls a with ⟨h, h1, h2, h3, h4⟩ | ⟨h, h1, h2, h3, h4⟩ | ⟨h, h1, h2, h3, h4⟩ | ⟨h, h1, h2, h3, h4⟩ | ⟨h, h1, h2, h3, h4⟩ <;>
  rcases cls b with ⟨k, k1, k2, k3, k4⟩ | ⟨k, k1, k2, k3, k4⟩ | ⟨k, k1, k2, k3, k4⟩ | ⟨k, k1, k2, k3, k4⟩ | ⟨k, k1, k2, k3, k4⟩ <;>
  (rw [h, k]; simp only [so, pl, pa, po, qo, h1, h2, h3, h4, k1, k2, k3, k4]; rfl)
theorem so_alt (a b : Tm) : (alt a b).so = so2 6 a.so b.so := by
  rcases cls a with ⟨h, h1, h2, h3, h4⟩ | ⟨h, h1, h2, h3, h4⟩ | ⟨h, h1, h2, h3, h4⟩ | ⟨h, h1, h2, h3, h4⟩ | ⟨h, h1, h2, h3, h4⟩ <;>
  rcases cls b with ⟨k, k1, k2, k3, k4⟩ | ⟨k, k1, k2, k3, k4⟩ | ⟨k, k1, k2, k3, k4⟩ | ⟨k, k1, k2, k3, k4⟩ | ⟨k, k1, k2, k3, k4⟩ <;>
  (rw [h, k]; simp only [so, pl, pa, po, qo, h1, h2, h3, h4, k1, k2, k3, k4]; rfl)
theorem so_par (a b : Tm) : (par a b).so = so2 7 a.so b.so := by
  rcases cls a with ⟨h, h1, h2, h3, h4⟩ | ⟨h, h1, h2, h3, h4⟩ | ⟨h, h1, h2, h3, h4⟩ | ⟨h, h1, h2, h3, h4⟩ | ⟨h, h1, h2, h3, h4⟩ <;>
  rcases cls b with ⟨k, k1, k2, k3, k4⟩ | ⟨k, k1, k2, k3, k4⟩ | ⟨k, k1, k2, k3, k4⟩ | ⟨k, k1, k2, k3, k4⟩ | ⟨k, k1, k2, k3, k4⟩ <;>
  (rw [h, k]; simp only [so, pl, pa, po, qo, h1, h2, h3, h4, k1, k2, k3, k4]; rfl)
theorem so_hand (a b : Tm) : (hand a b).so = so2 8 a.so b.so := by
  rcases cls a with ⟨h, h1, h2, h3, h4⟩ | ⟨h, h1, h2, h3, h4⟩ | ⟨h, h1, h2, h3, h4⟩ | ⟨h, h1, h2, h3, h4⟩ | ⟨h, h1, h2, h3, h4⟩ <;>
  rcases cls b with ⟨k, k1, k2, k3, k4⟩ | ⟨k, k1, k2, k3, k4⟩ | ⟨k, k1, k2, k3, k4⟩ | ⟨k, k1, k2, k3, k4⟩ | ⟨k, k1, k2, k3, k4⟩ <;>
  (rw [h, k]; simp only [so, pl, pa, po, qo, h1, h2, h3, h4, k1, k2, k3, k4]; rfl)
theorem so_pair (a b : Tm) : (pair a b).so = so2 10 a.so b.so := by
  rcases cls a with ⟨h, h1, h2, h3, h4⟩ | ⟨h, h1, h2, h3, h4⟩ | ⟨h, h1, h2, h3, h4⟩ | ⟨h, h1, h2, h3, h4⟩ | ⟨h, h1, h2, h3, h4⟩ <;>
  rcases cls b with ⟨k, k1, k2, k3, k4⟩ | ⟨k, k1, k2, k3, k4⟩ | ⟨k, k1, k2, k3, k4⟩ | ⟨k, k1, k2, k3, k4⟩ | ⟨k, k1, k2, k3, k4⟩ <;>
  (rw [h, k]; simp only [so, pl, pa, po, qo, h1, h2, h3, h4, k1, k2, k3, k4]; rfl)
theorem so_going (a b : Tm) : (going a b).so = so2 12 a.so b.so := by
  rcases cls a with ⟨h, h1, h2, h3, h4⟩ | ⟨h, h1, h2, h3, h4⟩ | ⟨h, h1, h2, h3, h4⟩ | ⟨h, h1, h2, h3, h4⟩ | ⟨h, h1, h2, h3, h4⟩ <;>
  rcases cls b with ⟨k, k1, k2, k3, k4⟩ | ⟨k, k1, k2, k3, k4⟩ | ⟨k, k1, k2, k3, k4⟩ | ⟨k, k1, k2, k3, k4⟩ | ⟨k, k1, k2, k3, k4⟩ <;>
  (rw [h, k]; simp only [so, pl, pa, po, qo, h1, h2, h3, h4, k1, k2, k3, k4]; rfl)
theorem so_stack (a b : Tm) : (stack a b).so = so2 13 a.so b.so := by
  rcases cls a with ⟨h, h1, h2, h3, h4⟩ | ⟨h, h1, h2, h3, h4⟩ | ⟨h, h1, h2, h3, h4⟩ | ⟨h, h1, h2, h3, h4⟩ | ⟨h, h1, h2, h3, h4⟩ <;>
  rcases cls b with ⟨k, k1, k2, k3, k4⟩ | ⟨k, k1, k2, k3, k4⟩ | ⟨k, k1, k2, k3, k4⟩ | ⟨k, k1, k2, k3, k4⟩ | ⟨k, k1, k2, k3, k4⟩ <;>
  (rw [h, k]; simp only [so, pl, pa, po, qo, h1, h2, h3, h4, k1, k2, k3, k4]; rfl)
theorem so_block (a : Tm) : (block a).so = so1 9 a.so := by
  rcases cls a with ⟨h, h1, h2, h3, h4⟩ | ⟨h, h1, h2, h3, h4⟩ | ⟨h, h1, h2, h3, h4⟩ | ⟨h, h1, h2, h3, h4⟩ | ⟨h, h1, h2, h3, h4⟩ <;>
  (rw [h]; simp only [so, pl, pa, po, qo, h1, h2, h3, h4]; rfl)
theorem so_fin (s : Int) (a : Tm) : (fin s a).so = so1 14 a.so := by
  rcases cls a with ⟨h, h1, h2, h3, h4⟩ | ⟨h, h1, h2, h3, h4⟩ | ⟨h, h1, h2, h3, h4⟩ | ⟨h, h1, h2, h3, h4⟩ | ⟨h, h1, h2, h3, h4⟩ <;>
  (rw [h]; simp only [so, pl, pa, po, qo, h1, h2, h3, h4]; rfl)
theorem so_range (a : Tm) : 0 ≤ a.so ∧ a.so ≤ 4 := by
  rcases cls a with h | h | h | h | h <;> omega
theorem so_po (a : Tm) : a.po = decide (on a.so = 3) := by
  rcases cls a with ⟨h, h1, h2, h3, h4⟩ | ⟨h, h1, h2, h3, h4⟩ | ⟨h, h1, h2, h3, h4⟩ | ⟨h, h1, h2, h3, h4⟩ | ⟨h, h1, h2, h3, h4⟩ <;> (rw [h, h3]; rfl)
theorem so_qo (a : Tm) : a.qo = decide (on a.so = 4) := by
  rcases cls a with ⟨h, h1, h2, h3, h4⟩ | ⟨h, h1, h2, h3, h4⟩ | ⟨h, h1, h2, h3, h4⟩ | ⟨h, h1, h2, h3, h4⟩ | ⟨h, h1, h2, h3, h4⟩ <;> (rw [h, h4]; rfl)
end Tm
/-- The tree of a row that is whole. -/
noncomputable def tmOf (l : List Nd) : Option Tm := if h : whole l = true then some (Classical.choose (whole_iff.1 h)) else none
theorem tmOf_some {l : List Nd} {m : Tm} : tmOf l = some m ↔ l = m.row ∧ m.fine ∧ m.size ≤ 200 := by
  unfold tmOf
  split
  · rename_i h
    have hs := Classical.choose_spec (whole_iff.1 h)
    constructor
    · intro e; cases e; exact hs
    · rintro ⟨e, _⟩
      congr 1
      exact Tm.row_inj (hs.1.symm.trans e)
  · rename_i h
    constructor
    · intro e; cases e
    · intro e; exact absurd (whole_iff.2 ⟨m, e⟩) h
theorem tmOf_none {l : List Nd} : tmOf l = none ↔ whole l = false := by
  unfold tmOf
  split
  · rename_i h; simp [h]
  · rename_i h; simpa using h
theorem whole_tmOf (l : List Nd) : whole l = (tmOf l).isSome := by
  cases h : tmOf l with
  | none => rw [tmOf_none.1 h]; rfl
  | some m => rw [whole_iff.2 ⟨m, tmOf_some.1 h⟩]; rfl
/-- The sort of a row. -/
noncomputable def sOf (l : List Nd) : Int := match tmOf l with | some m => m.so | none => 0
end Go.Rd
