/- What the functions of sorts compute (package sort, redressref04): in plain words. -/
import Derived.Test.YtgogodeknkoalaaGreatDoorW03r
import Derived.Test.YtgogodeknkoalaaGreatDoorM3
namespace Go.Proofs.YtgogodeknkoalaaGreatDoor.Sv
open Go Go.Sv Go.Rd
set_option linter.unusedVariables false
set_option linter.unusedSimpArgs false
theorem kids0 [Dfr] (m : Tm) {n : Nd} (h : m.t = .n0 n) (hs : m.size ≤ 100000) : row_Kids m.row = some [] := by
  rw [row_Kids_s _ (by rw [Tm.len_row]; omega), kidsR_tm, h]
  rfl
theorem kids1 [Dfr] (m : Tm) {n : Nd} {a : Tm} (h : m.t = .n1 n a.t) (hs : m.size ≤ 100000) : row_Kids m.row = some [a.row] := by
  rw [row_Kids_s _ (by rw [Tm.len_row]; omega), kidsR_tm, h]
  rfl
theorem kids2 [Dfr] (m : Tm) {n : Nd} {a b : Tm} (h : m.t = .n2 n a.t b.t) (hs : m.size ≤ 100000) : row_Kids m.row = some [a.row, b.row] := by
  rw [row_Kids_s _ (by rw [Tm.len_row]; omega), kidsR_tm, h]
  rfl
theorem sort_on_s [Dfr] (x : Int) : sort_on x = some (on x) := by
  rw [sort_on_eq]
  by_cases h1 : x = 1; · subst h1; rfl
  by_cases h2 : x = 2; · subst h2; rfl
  simp only [beq_false_of_ne h1, beq_false_of_ne h2, cond_false, on, h1, h2, or_self, if_false]
theorem sort_both_s [Dfr] (x y : Int) : sort_both x y = some (both x y) := by
  rw [sort_both_eq]
  simp only [sort_on_s, Option.bind_some, both]
  by_cases h : on x = on y
  · have : (on x != on y) = false := by simp [h]
    rw [this, if_pos h]; rfl
  · have : (on x != on y) = true := by simp [h]
    rw [this, if_neg h]; rfl
theorem sort_behind_s [Dfr] (x y z : Int) : sort_behind x y z = some (behind x y z) := by
  rw [sort_behind_eq]
  simp only [sort_on_s, Option.bind_some, behind]
  by_cases h : y = z
  · have : (y != z) = false := by simp [h]
    rw [this, if_pos h, cond_false]
    by_cases h' : on x = on z
    · have : (on x != on z) = false := by simp [h']
      rw [this, if_pos h']; rfl
    · have : (on x != on z) = true := by simp [h']
      rw [this, if_neg h']; rfl
  · have : (y != z) = true := by simp [h]
    rw [this, if_neg h]; rfl
theorem sort_l0_2 [Dfr] (l a b : List Nd) {x y : Int} (ha : sort_sort a = some x) (hb : sort_sort b = some y) : sort_sort_l0 l 0 [] [a, b] (([a, b] : List (List Nd)).length : Int) 0 = some (if x = 0 then (1, (l, 0, [])) else if y = 0 then (1, (l, 0, [x])) else (0, (l, 0, [x, y]))) := by
  rw [sort_sort_l0_eq]
  simp only [show decide ((0 : Int) < (([a, b] : List (List Nd)).length : Int)) = true from rfl, show idxOk 0 ([a, b] : List (List Nd)).length = true from rfl, cond_true, show ix [a, b] 0 = a from rfl, ha, Option.bind_some]
  by_cases h : x = 0
  · simp [h]
  · simp only [beq_false_of_ne h, cond_false, if_neg h, room (show (([] : List Int).length + 1) * 8 ≤ 140737488355328 by decide), cond_true, List.nil_append]
    rw [sort_sort_l0_eq]
    simp only [show decide (w64 (0 + 1) < (([a, b] : List (List Nd)).length : Int)) = true from rfl, show idxOk (w64 (0 + 1)) ([a, b] : List (List Nd)).length = true from rfl, cond_true, show ix [a, b] (w64 (0 + 1)) = b from rfl, hb, Option.bind_some]
    by_cases h' : y = 0
    · simp [h']
    · simp only [beq_false_of_ne h', cond_false, if_neg h', room (show (([x] : List Int).length + 1) * 8 ≤ 140737488355328 by simp), cond_true]
      rw [sort_sort_l0_eq]
      rfl
theorem sort_l0_1 [Dfr] (l a : List Nd) {x : Int} (ha : sort_sort a = some x) : sort_sort_l0 l 0 [] [a] (([a] : List (List Nd)).length : Int) 0 = some (if x = 0 then (1, (l, 0, [])) else (0, (l, 0, [x]))) := by
  rw [sort_sort_l0_eq]
  simp only [show decide ((0 : Int) < (([a] : List (List Nd)).length : Int)) = true from rfl, show idxOk 0 ([a] : List (List Nd)).length = true from rfl, cond_true, show ix [a] 0 = a from rfl, ha, Option.bind_some]
  by_cases h : x = 0
  · simp [h]
  · simp only [beq_false_of_ne h, cond_false, if_neg h, room (show (([] : List Int).length + 1) * 8 ≤ 140737488355328 by decide), cond_true, List.nil_append]
    rw [sort_sort_l0_eq]
    rfl
theorem sort_l0_0 [Dfr] (l : List Nd) : sort_sort_l0 l 0 [] [] (([] : List (List Nd)).length : Int) 0 = some (0, (l, 0, [])) := by
  rw [sort_sort_l0_eq]
  rfl
/-- A tree of two, whose kids' sorts are told. -/
theorem sort_two [Dfr] {m a b : Tm} {k x y : Int} (hk : k = 5 ∨ k = 6 ∨ k = 7 ∨ k = 8 ∨ k = 10 ∨ k = 12 ∨ k = 13) (h : m.t = .n2 (nd k) a.t b.t) (hs : m.size ≤ 100000) (ha : sort_sort a.row = some x) (hb : sort_sort b.row = some y) : sort_sort m.row = some (so2 k x y) := by
  rw [sort_sort_eq, kids2 m h hs]
  simp only [Option.bind_some, sort_l0_2 m.row a.row b.row ha hb]
  by_cases h0 : x = 0
  · simp [h0, so2, Nat.beq]
  by_cases h1 : y = 0
  · simp [h0, h1, so2, Nat.beq]
  have hrow : m.row = nd k :: (a.row ++ b.row) := by unfold Tm.row; rw [h]; rfl
  have hid : idxOk 0 m.row.length = true := by rw [hrow]; exact idxOk_zero (by simp)
  have hix : (ix m.row 0).1 = k := by rw [hrow]; rfl
  simp only [if_neg h0, if_neg h1, Nat.beq_refl, cond_true, hid, hix, sort_both_s, sort_behind_s, sort_on_s, show idxOk 0 ([x, y] : List Int).length = true from rfl, show idxOk 1 ([x, y] : List Int).length = true from rfl, show ix [x, y] 0 = x from rfl, show ix [x, y] 1 = y from rfl, Option.bind_some, int_eq]
  unfold so2
  rw [if_neg h0, if_neg h1]
  rcases hk with rfl | rfl | rfl | rfl | rfl | rfl | rfl
  · rfl
  · by_cases c1 : x > 2 <;> by_cases c2 : y > 2 <;> simp [c1, c2]
  · rfl
  · rfl
  · by_cases c1 : x = 1 <;> by_cases c2 : y = 1 <;> simp [c1, c2]
  · by_cases c1 : on x = 3 <;> by_cases c2 : y = 1 <;> simp [c1, c2]
  · by_cases c1 : on x = 4 <;> by_cases c2 : y = 1 <;> simp [c1, c2]
theorem sort_one9 [Dfr] {a : Tm} {x : Int} (hs : (Tm.block a).size ≤ 100000) (hx : 0 ≤ x ∧ x ≤ 4) (ha : sort_sort a.row = some x) : sort_sort (Tm.block a).row = some (so1 9 x) := by
  rw [sort_sort_eq, kids1 (.block a) rfl hs]
  simp only [Option.bind_some, sort_l0_1 (Tm.block a).row a.row ha]
  by_cases h0 : x = 0
  · simp [h0, so1, Nat.beq]
  have hid : idxOk 0 (Tm.block a).row.length = true := by rw [Tm.row_block]; exact idxOk_zero (by simp)
  have hix : (ix (Tm.block a).row 0).1 = 9 := rfl
  simp only [if_neg h0, Nat.beq_refl, cond_true, hid, hix, sort_on_s, show idxOk 0 ([x] : List Int).length = true from rfl, show ix [x] 0 = x from rfl, Option.bind_some, int_eq]
  unfold so1
  rw [if_neg h0]
  rw [w64_id (by omega) (by omega)]
  by_cases c1 : on x = 4 <;> simp [c1]
theorem sort_one14 [Dfr] {a : Tm} {s x : Int} (hs : (Tm.fin s a).size ≤ 100000) (ha : sort_sort a.row = some x) : sort_sort (Tm.fin s a).row = some (so1 14 x) := by
  rw [sort_sort_eq, kids1 (.fin s a) rfl hs]
  simp only [Option.bind_some, sort_l0_1 (Tm.fin s a).row a.row ha]
  by_cases h0 : x = 0
  · simp [h0, so1, Nat.beq]
  have hid : idxOk 0 (Tm.fin s a).row.length = true := by rw [Tm.row_fin]; exact idxOk_zero (by simp)
  have hix : (ix (Tm.fin s a).row 0).1 = 14 := rfl
  simp only [if_neg h0, Nat.beq_refl, cond_true, hid, hix, sort_on_s, show idxOk 0 ([x] : List Int).length = true from rfl, show ix [x] 0 = x from rfl, Option.bind_some, int_eq]
  unfold so1
  rw [if_neg h0]
  by_cases c1 : x = 1 <;> simp [c1]
theorem sort_zero [Dfr] {m : Tm} {n : Nd} (h : m.t = .n0 n) (hk : n.1 = 1 ∨ n.1 = 2 ∨ n.1 = 3 ∨ n.1 = 4 ∨ n.1 = 11) : sort_sort m.row = some (if n.1 = 11 then 3 else 1) := by
  have hs : m.size ≤ 100000 := by unfold Tm.size; rw [h]; simp [T.size]
  have hrow : m.row = [n] := by unfold Tm.row; rw [h]; rfl
  rw [sort_sort_eq, kids0 m h hs]
  simp only [Option.bind_some, sort_l0_0, Nat.beq_refl, cond_true]
  rw [hrow]
  simp only [show idxOk 0 ([n] : List Nd).length = true from rfl, show ix [n] 0 = n from rfl, cond_true]
  rcases hk with e | e | e | e | e <;> rw [e] <;> rfl
theorem sort_sort_s [Dfr] (m : Tm) (hs : m.size ≤ 100000) : sort_sort m.row = some m.so := by
  induction m with
  | act s => rw [sort_zero (m := .act s) rfl (.inl rfl)]; rfl
  | skip => rw [sort_zero (m := .skip) rfl (.inr (.inl rfl))]; rfl
  | throw => rw [sort_zero (m := .throw) rfl (.inr (.inr (.inl rfl)))]; rfl
  | yield => rw [sort_zero (m := .yield) rfl (.inr (.inr (.inr (.inl rfl))))]; rfl
  | over s => rw [sort_zero (m := .over s) rfl (.inr (.inr (.inr (.inr rfl))))]; rfl
  | block a ih => rw [sort_one9 hs a.so_range (ih (by rw [Tm.size_block] at hs; omega)), Tm.so_block]
  | fin s a ih => rw [sort_one14 hs (ih (by rw [Tm.size_fin] at hs; omega)), Tm.so_fin]
  | seq a b iha ihb => rw [sort_two (m := .seq a b) (by simp) rfl hs (iha (by rw [Tm.size_seq] at hs; omega)) (ihb (by rw [Tm.size_seq] at hs; omega)), Tm.so_seq]
  | alt a b iha ihb => rw [sort_two (m := .alt a b) (by simp) rfl hs (iha (by rw [Tm.size_alt] at hs; omega)) (ihb (by rw [Tm.size_alt] at hs; omega)), Tm.so_alt]
  | par a b iha ihb => rw [sort_two (m := .par a b) (by simp) rfl hs (iha (by rw [Tm.size_par] at hs; omega)) (ihb (by rw [Tm.size_par] at hs; omega)), Tm.so_par]
  | hand a b iha ihb => rw [sort_two (m := .hand a b) (by simp) rfl hs (iha (by rw [Tm.size_hand] at hs; omega)) (ihb (by rw [Tm.size_hand] at hs; omega)), Tm.so_hand]
  | pair a b iha ihb => rw [sort_two (m := .pair a b) (by simp) rfl hs (iha (by rw [Tm.size_pair] at hs; omega)) (ihb (by rw [Tm.size_pair] at hs; omega)), Tm.so_pair]
  | going a b iha ihb => rw [sort_two (m := .going a b) (by simp) rfl hs (iha (by rw [Tm.size_going] at hs; omega)) (ihb (by rw [Tm.size_going] at hs; omega)), Tm.so_going]
  | stack a b iha ihb => rw [sort_two (m := .stack a b) (by simp) rfl hs (iha (by rw [Tm.size_stack] at hs; omega)) (ihb (by rw [Tm.size_stack] at hs; omega)), Tm.so_stack]
theorem sort_Of_s [Dfr] (l : List Nd) (hl : l.length ≤ 4611686018427387904) : sort_Of l = some (sOf l) := by
  rw [sort_Of_eq, row_Whole_s l hl, whole_tmOf]
  unfold sOf
  simp only [Option.bind_some]
  cases h : tmOf l with
  | none => rfl
  | some m =>
    obtain ⟨rfl, h2, h3⟩ := tmOf_some.1 h
    simp only [Option.isSome_some, Bool.not_true, cond_false, sort_sort_s m (by omega), Option.bind_some]
theorem sort_On_s [Dfr] (l : List Nd) (b : Bool) (hl : l.length ≤ 4611686018427387904) : sort_On l b = some (decide (on (sOf l) = if b then 4 else 3)) := by
  rw [sort_On_eq]
  cases b <;> simp only [sort_Of_s l hl, sort_on_s, Option.bind_some, cond_true, cond_false, int_eq, if_true, if_false] <;> rfl
end Go.Proofs.YtgogodeknkoalaaGreatDoor.Sv
