/- What the functions of package slices compute, at each type of elements: in plain words. Printed by a program (mk00.py). -/
import Derived.Test.YtgogodeknkoalaaGreatDoorSvTop
import Derived.Test.YtgogodeknkoalaaGreatDoorM1
namespace Go.Proofs.YtgogodeknkoalaaGreatDoor.Sv
open Go Go.Sv Go.Rd
set_option linter.unusedVariables false
set_option linter.unusedSimpArgs false
/-- Two nodes alike, as the evaluator tells it. -/
theorem nd_eq [Dfr] (t u : Nd) : ((t.1 == u.1) && ((t.2.1.toList == u.2.1.toList) && (t.2.2 == u.2.2))) = decide (t = u) := by
  have h := bq_eq t.2.1 u.2.1
  unfold bq at h
  rw [h]
  obtain ⟨a, b, c⟩ := t
  obtain ⟨a', b', c'⟩ := u
  simp only [Prod.mk.injEq]
  by_cases h1 : a = a' <;> by_cases h2 : b = b' <;> by_cases h3 : c = c' <;> simp [h1, h2, h3]
theorem mv_eq [Dfr] (t u : Mv) : ((t.1 == u.1) && (t.2 == u.2)) = decide (t = u) := by
  obtain ⟨a, b⟩ := t
  obtain ⟨a', b'⟩ := u
  simp only [Prod.mk.injEq]
  by_cases h1 : a = a' <;> by_cases h2 : b = b' <;> simp [h1, h2]
theorem str_eq [Dfr] (t u : ByteArray) : (t.toList == u.toList) = decide (t = u) := bq_eq t u
theorem int_eq [Dfr] (t u : Int) : (t == u) = decide (t = u) := by
  by_cases h : t = u <;> simp [h]
def sumLen {α : Type} : List (List α) → Nat
  | [] => 0
  | x :: r => x.length + sumLen r
theorem sumLen_flatten [Dfr] {α : Type} : ∀ (l : List (List α)), sumLen l = l.flatten.length
  | [] => rfl
  | x :: r => by simp [sumLen, sumLen_flatten r]
theorem slices_Clone__api_Node_s [Dfr] (xs : List Nd) (h : xs.length ≤ 1000000000) : slices_Clone__api_Node xs = some xs := by
  rw [slices_Clone__api_Node_eq]
  unfold slices_Clone__api_Node_spec
  rw [room (show xs.length * 32 ≤ 140737488355328 by omega)]
  rfl
theorem slices_Grow__api_Node_s [Dfr] (n : Nat) (hn : n ≤ 1000000000) : slices_Grow__api_Node () (n : Int) = some [] := by
  rw [slices_Grow__api_Node_eq]
  have hw : w64 ((n : Int) - 0) = (n : Int) := by rw [Int.sub_zero]; exact w_nat (by omega)
  have h1 : decide ((n : Int) < 0) = false := decide_eq_false (by omega)
  have hr : roomOk n 32 = true := room (by omega)
  have h3 : decide (0 ≤ (n : Int)) = true := decide_eq_true (by omega)
  simp only [hw, h1, cond_false, Int.toNat_natCast, hr, h3, Bool.and_self, cond_true]
  by_cases h0 : n = 0
  · subst h0; rfl
  · have h2 : decide ((n : Int) > 0) = true := decide_eq_true (by omega)
    have hc : cutOk 0 0 n = true := by unfold cutOk; simp
    simp [h2, hc, cut]
theorem slices_Concat__api_Node_l0s [Dfr] (xs : List (List Nd)) (hx : sumLen xs ≤ 1000000000) (hn : xs.length ≤ 1000000000) : ∀ (r : List (List Nd)) (i acc : Nat), xs.drop i = r → acc + sumLen r ≤ 1000000000 → slices_Concat__api_Node_l0 xs (acc : Int) xs (xs.length : Int) (i : Int) = some (0, (xs, ((acc + sumLen r : Nat) : Int)))
  | [], i, acc, h, ha => by
    obtain ⟨h1, h2⟩ := drop_nil h
    rw [slices_Concat__api_Node_l0_eq]
    simp only [h2, cond_false, sumLen, Nat.add_zero]
  | x :: r, i, acc, h, ha => by
    obtain ⟨h1, h2, h3, h4, h5, h6⟩ := drop_cons h
    simp only [sumLen] at ha
    have hw : w64 ((acc : Int) + (x.length : Int)) = ((acc + x.length : Nat) : Int) := by rw [show (acc : Int) + (x.length : Int) = ((acc + x.length : Nat) : Int) by omega]; exact w_nat (by omega)
    have h7 : decide (((acc + x.length : Nat) : Int) < 0) = false := decide_eq_false (by omega)
    rw [slices_Concat__api_Node_l0_eq]
    simp only [h2, h3, h4, hw, h7, cond_true, cond_false, w_succ (show i < 9223372036854775807 by omega), slices_Concat__api_Node_l0s xs hx hn r (i + 1) (acc + x.length) h5 (by omega), sumLen, Nat.add_assoc]
theorem slices_Concat__api_Node_l2s [Dfr] (xs : List (List Nd)) (hn : xs.length ≤ 1000000000) : ∀ (r : List (List Nd)) (i : Nat) (acc : List Nd), xs.drop i = r → acc.length + sumLen r ≤ 1000000000 → slices_Concat__api_Node_l2 acc xs (xs.length : Int) (i : Int) = some (0, acc ++ r.flatten)
  | [], i, acc, h, ha => by
    obtain ⟨h1, h2⟩ := drop_nil h
    rw [slices_Concat__api_Node_l2_eq]
    simp only [h2, cond_false, List.flatten_nil, List.append_nil]
  | x :: r, i, acc, h, ha => by
    obtain ⟨h1, h2, h3, h4, h5, h6⟩ := drop_cons h
    simp only [sumLen] at ha
    rw [slices_Concat__api_Node_l2_eq]
    simp only [h2, h3, h4, room (show (acc.length + x.length) * 32 ≤ 140737488355328 by omega), cond_true, w_succ (show i < 9223372036854775807 by omega), slices_Concat__api_Node_l2s xs hn r (i + 1) (acc ++ x) h5 (by rw [List.length_append]; omega), List.flatten_cons, List.append_assoc]
theorem slices_Concat__api_Node_s [Dfr] (xs : List (List Nd)) (hx : sumLen xs ≤ 1000000000) (hn : xs.length ≤ 1000000000) : slices_Concat__api_Node xs = some xs.flatten := by
  rw [slices_Concat__api_Node_eq]
  have h0 := slices_Concat__api_Node_l0s xs hx hn xs 0 0 rfl (by omega)
  have h2 := slices_Concat__api_Node_l2s xs hn xs 0 [] rfl (by simpa using hx)
  simp only [Int.natCast_zero, Nat.zero_add] at h0 h2
  simp only [h0, Option.bind_some, slices_Grow__api_Node_s _ hx, h2, List.nil_append]
theorem slices_Equal__api_Node_l0s [Dfr] (xs ys : List Nd) (hx : xs.length ≤ 4611686018427387904) (hl : xs.length = ys.length) (b : Bool) : ∀ (r : List Nd) (i : Nat), xs.drop i = r → slices_Equal__api_Node_l0 xs ys b (xs.length : Int) (i : Int) = some (if r = ys.drop i then (0, b) else (1, false))
  | [], i, h => by
    rw [slices_Equal__api_Node_l0_eq]
    obtain ⟨h1, h2⟩ := drop_nil h
    simp only [h2, cond_false, List.drop_eq_nil_of_le (show ys.length ≤ i by omega), if_true]
  | x :: r, i, h => by
    rw [slices_Equal__api_Node_l0_eq]
    obtain ⟨h1, h2, h3, h4, h5, h6⟩ := drop_cons h
    cases hy : ys.drop i with
    | nil => have := List.drop_eq_nil_iff.1 hy; omega
    | cons y s =>
      obtain ⟨k1, k2, k3, k4, k5, k6⟩ := drop_cons hy
      simp only [h2, h3, h4, k3, k4, cond_true, nd_eq, w_succ (show i < 9223372036854775807 by omega), slices_Equal__api_Node_l0s xs ys hx hl b r (i + 1) h5, k5]
      by_cases e : x = y
      · simp [e]
      · simp [e]
theorem slices_Equal__api_Node_s [Dfr] (xs ys : List Nd) (hx : xs.length ≤ 4611686018427387904) : slices_Equal__api_Node xs ys = some (decide (xs = ys)) := by
  rw [slices_Equal__api_Node_eq]
  by_cases hl : xs.length = ys.length
  · have h1 : ((xs.length : Int) != (ys.length : Int)) = false := by simp [hl]
    have := slices_Equal__api_Node_l0s xs ys hx hl false xs 0 rfl
    simp only [Int.natCast_zero, List.drop_zero] at this
    simp only [h1, cond_false, this, Option.bind_some]
    by_cases e : xs = ys <;> simp [e, Nat.beq]
  · have h1 : ((xs.length : Int) != (ys.length : Int)) = true := by simp; omega
    have h2 : xs ≠ ys := fun e => hl (by rw [e])
    simp [h1, h2]
theorem slices_IndexFunc__api_Node_l0s [Dfr] (xs : List Nd) (f : FnV) (p : Nd → Bool) (b : Int) (hx : xs.length ≤ 4611686018427387904) (hp : ∀ x ∈ xs, dyn E f [.agg [.int .i64 x.1, .str x.2.1, .int .i64 x.2.2]] .bool = some (p x)) : ∀ (r : List Nd) (i : Nat), xs.drop i = r → ∃ n : Int × Int, slices_IndexFunc__api_Node_l0 xs f b (xs.length : Int) (i : Int) = some (if r.any p then (1, n.1) else (0, b)) ∧ 0 ≤ n.1
  | [], i, h => by
    obtain ⟨h1, h2⟩ := drop_nil h
    refine ⟨(0, 0), ?_, Int.le_refl _⟩
    rw [slices_IndexFunc__api_Node_l0_eq]
    simp only [h2, cond_false]
    simp
  | x :: r, i, h => by
    obtain ⟨h1, h2, h3, h4, h5, h6⟩ := drop_cons h
    obtain ⟨n, hn, hn0⟩ := slices_IndexFunc__api_Node_l0s xs f p b hx hp r (i + 1) h5
    have hxm : x ∈ xs := by
      have : x ∈ xs.drop i := by rw [h]; exact List.mem_cons_self ..
      exact List.mem_of_mem_drop this
    have hpx := hp x hxm
    cases e : p x with
    | true =>
      refine ⟨((i : Int), 0), ?_, by simp⟩
      rw [slices_IndexFunc__api_Node_l0_eq]
      simp only [h2, h3, h4, hpx, e, cond_true, Option.bind_some, List.any_cons, Bool.true_or, if_true]
    | false =>
      refine ⟨n, ?_, hn0⟩
      rw [slices_IndexFunc__api_Node_l0_eq]
      simp only [h2, h3, h4, hpx, e, cond_true, cond_false, Option.bind_some, List.any_cons, Bool.false_or, w_succ (show i < 9223372036854775807 by omega), hn]
theorem slices_ContainsFunc__api_Node_s [Dfr] (xs : List Nd) (f : FnV) (p : Nd → Bool) (hx : xs.length ≤ 4611686018427387904) (hp : ∀ x ∈ xs, dyn E f [.agg [.int .i64 x.1, .str x.2.1, .int .i64 x.2.2]] .bool = some (p x)) : slices_ContainsFunc__api_Node xs f = some (xs.any p) := by
  obtain ⟨n, hn, hn0⟩ := slices_IndexFunc__api_Node_l0s xs f p 0 hx hp xs 0 rfl
  rw [Int.natCast_zero] at hn
  rw [slices_ContainsFunc__api_Node_eq, slices_IndexFunc__api_Node_eq]
  simp only [hn, Option.bind_some]
  cases e : xs.any p with
  | true => simp [Nat.beq, hn0]
  | false => simp [Nat.beq]
theorem slices_Index__string_l0s [Dfr] (xs : List ByteArray) (a : ByteArray) (b : Int) (hx : xs.length ≤ 4611686018427387904) : ∀ (r : List ByteArray) (i : Nat), xs.drop i = r → ∃ n : Int × Int, slices_Index__string_l0 xs a b (xs.length : Int) (i : Int) = some (if a ∈ r then (1, n.1) else (0, b)) ∧ 0 ≤ n.1
  | [], i, h => by
    obtain ⟨h1, h2⟩ := drop_nil h
    refine ⟨(0, 0), ?_, Int.le_refl _⟩
    rw [slices_Index__string_l0_eq]
    simp only [h2, cond_false]
    simp
  | x :: r, i, h => by
    obtain ⟨h1, h2, h3, h4, h5, h6⟩ := drop_cons h
    obtain ⟨n, hn, hn0⟩ := slices_Index__string_l0s xs a b hx r (i + 1) h5
    by_cases e : a = x
    · refine ⟨((i : Int), 0), ?_, by simp⟩
      rw [slices_Index__string_l0_eq]
      simp only [h2, h3, h4, cond_true, str_eq, e]
      simp
    · refine ⟨n, ?_, hn0⟩
      rw [slices_Index__string_l0_eq]
      simp only [h2, h3, h4, cond_true, str_eq, w_succ (show i < 9223372036854775807 by omega), hn, decide_eq_false e, decide_eq_false (Ne.symm e), cond_false]
      simp [e]
theorem slices_Contains__string_s [Dfr] (xs : List ByteArray) (a : ByteArray) (hx : xs.length ≤ 4611686018427387904) : slices_Contains__string xs a = some (decide (a ∈ xs)) := by
  obtain ⟨n, hn, hn0⟩ := slices_Index__string_l0s xs a 0 hx xs 0 rfl
  rw [Int.natCast_zero] at hn
  rw [slices_Contains__string_eq, slices_Index__string_eq]
  simp only [hn, Option.bind_some]
  by_cases e : a ∈ xs
  · simp [e, Nat.beq, hn0]
  · simp [e, Nat.beq]
theorem slices_Index__int_l0s [Dfr] (xs : List Int) (a : Int) (b : Int) (hx : xs.length ≤ 4611686018427387904) : ∀ (r : List Int) (i : Nat), xs.drop i = r → ∃ n : Int × Int, slices_Index__int_l0 xs a b (xs.length : Int) (i : Int) = some (if a ∈ r then (1, n.1) else (0, b)) ∧ 0 ≤ n.1
  | [], i, h => by
    obtain ⟨h1, h2⟩ := drop_nil h
    refine ⟨(0, 0), ?_, Int.le_refl _⟩
    rw [slices_Index__int_l0_eq]
    simp only [h2, cond_false]
    simp
  | x :: r, i, h => by
    obtain ⟨h1, h2, h3, h4, h5, h6⟩ := drop_cons h
    obtain ⟨n, hn, hn0⟩ := slices_Index__int_l0s xs a b hx r (i + 1) h5
    by_cases e : a = x
    · refine ⟨((i : Int), 0), ?_, by simp⟩
      rw [slices_Index__int_l0_eq]
      simp only [h2, h3, h4, cond_true, int_eq, e]
      simp
    · refine ⟨n, ?_, hn0⟩
      rw [slices_Index__int_l0_eq]
      simp only [h2, h3, h4, cond_true, int_eq, w_succ (show i < 9223372036854775807 by omega), hn, decide_eq_false e, decide_eq_false (Ne.symm e), cond_false]
      simp [e]
theorem slices_Contains__int_s [Dfr] (xs : List Int) (a : Int) (hx : xs.length ≤ 4611686018427387904) : slices_Contains__int xs a = some (decide (a ∈ xs)) := by
  obtain ⟨n, hn, hn0⟩ := slices_Index__int_l0s xs a 0 hx xs 0 rfl
  rw [Int.natCast_zero] at hn
  rw [slices_Contains__int_eq, slices_Index__int_eq]
  simp only [hn, Option.bind_some]
  by_cases e : a ∈ xs
  · simp [e, Nat.beq, hn0]
  · simp [e, Nat.beq]
theorem slices_IndexFunc__int_l0s [Dfr] (xs : List Int) (f : FnV) (p : Int → Bool) (b : Int) (hx : xs.length ≤ 4611686018427387904) (hp : ∀ x ∈ xs, dyn E f [.one (.int .i64 x)] .bool = some (p x)) : ∀ (r : List Int) (i : Nat), xs.drop i = r → ∃ n : Int × Int, slices_IndexFunc__int_l0 xs f b (xs.length : Int) (i : Int) = some (if r.any p then (1, n.1) else (0, b)) ∧ 0 ≤ n.1
  | [], i, h => by
    obtain ⟨h1, h2⟩ := drop_nil h
    refine ⟨(0, 0), ?_, Int.le_refl _⟩
    rw [slices_IndexFunc__int_l0_eq]
    simp only [h2, cond_false]
    simp
  | x :: r, i, h => by
    obtain ⟨h1, h2, h3, h4, h5, h6⟩ := drop_cons h
    obtain ⟨n, hn, hn0⟩ := slices_IndexFunc__int_l0s xs f p b hx hp r (i + 1) h5
    have hxm : x ∈ xs := by
      have : x ∈ xs.drop i := by rw [h]; exact List.mem_cons_self ..
      exact List.mem_of_mem_drop this
    have hpx := hp x hxm
    cases e : p x with
    | true =>
      refine ⟨((i : Int), 0), ?_, by simp⟩
      rw [slices_IndexFunc__int_l0_eq]
      simp only [h2, h3, h4, hpx, e, cond_true, Option.bind_some, List.any_cons, Bool.true_or, if_true]
    | false =>
      refine ⟨n, ?_, hn0⟩
      rw [slices_IndexFunc__int_l0_eq]
      simp only [h2, h3, h4, hpx, e, cond_true, cond_false, Option.bind_some, List.any_cons, Bool.false_or, w_succ (show i < 9223372036854775807 by omega), hn]
theorem slices_ContainsFunc__int_s [Dfr] (xs : List Int) (f : FnV) (p : Int → Bool) (hx : xs.length ≤ 4611686018427387904) (hp : ∀ x ∈ xs, dyn E f [.one (.int .i64 x)] .bool = some (p x)) : slices_ContainsFunc__int xs f = some (xs.any p) := by
  obtain ⟨n, hn, hn0⟩ := slices_IndexFunc__int_l0s xs f p 0 hx hp xs 0 rfl
  rw [Int.natCast_zero] at hn
  rw [slices_ContainsFunc__int_eq, slices_IndexFunc__int_eq]
  simp only [hn, Option.bind_some]
  cases e : xs.any p with
  | true => simp [Nat.beq, hn0]
  | false => simp [Nat.beq]
theorem slices_Index__api_Move_l0s [Dfr] (xs : List Mv) (a : Mv) (b : Int) (hx : xs.length ≤ 4611686018427387904) : ∀ (r : List Mv) (i : Nat), xs.drop i = r → ∃ n : Int × Int, slices_Index__api_Move_l0 xs a b (xs.length : Int) (i : Int) = some (if a ∈ r then (1, n.1) else (0, b)) ∧ 0 ≤ n.1
  | [], i, h => by
    obtain ⟨h1, h2⟩ := drop_nil h
    refine ⟨(0, 0), ?_, Int.le_refl _⟩
    rw [slices_Index__api_Move_l0_eq]
    simp only [h2, cond_false]
    simp
  | x :: r, i, h => by
    obtain ⟨h1, h2, h3, h4, h5, h6⟩ := drop_cons h
    obtain ⟨n, hn, hn0⟩ := slices_Index__api_Move_l0s xs a b hx r (i + 1) h5
    by_cases e : a = x
    · refine ⟨((i : Int), 0), ?_, by simp⟩
      rw [slices_Index__api_Move_l0_eq]
      simp only [h2, h3, h4, cond_true, mv_eq, e]
      simp
    · refine ⟨n, ?_, hn0⟩
      rw [slices_Index__api_Move_l0_eq]
      simp only [h2, h3, h4, cond_true, mv_eq, w_succ (show i < 9223372036854775807 by omega), hn, decide_eq_false e, decide_eq_false (Ne.symm e), cond_false]
      simp [e]
theorem slices_Contains__api_Move_s [Dfr] (xs : List Mv) (a : Mv) (hx : xs.length ≤ 4611686018427387904) : slices_Contains__api_Move xs a = some (decide (a ∈ xs)) := by
  obtain ⟨n, hn, hn0⟩ := slices_Index__api_Move_l0s xs a 0 hx xs 0 rfl
  rw [Int.natCast_zero] at hn
  rw [slices_Contains__api_Move_eq, slices_Index__api_Move_eq]
  simp only [hn, Option.bind_some]
  by_cases e : a ∈ xs
  · simp [e, Nat.beq, hn0]
  · simp [e, Nat.beq]
theorem slices_IndexFunc__Sapi_Node_l0s [Dfr] (xs : List (List Nd)) (f : FnV) (p : List Nd → Bool) (b : Int) (hx : xs.length ≤ 4611686018427387904) (hp : ∀ x ∈ xs, dyn E f [.one (.slice 40 (.pair (.int .i64) (.pair .str (.int .i64))) x .no)] .bool = some (p x)) : ∀ (r : List (List Nd)) (i : Nat), xs.drop i = r → ∃ n : Int × Int, slices_IndexFunc__Sapi_Node_l0 xs f b (xs.length : Int) (i : Int) = some (if r.any p then (1, n.1) else (0, b)) ∧ 0 ≤ n.1
  | [], i, h => by
    obtain ⟨h1, h2⟩ := drop_nil h
    refine ⟨(0, 0), ?_, Int.le_refl _⟩
    rw [slices_IndexFunc__Sapi_Node_l0_eq]
    simp only [h2, cond_false]
    simp
  | x :: r, i, h => by
    obtain ⟨h1, h2, h3, h4, h5, h6⟩ := drop_cons h
    obtain ⟨n, hn, hn0⟩ := slices_IndexFunc__Sapi_Node_l0s xs f p b hx hp r (i + 1) h5
    have hxm : x ∈ xs := by
      have : x ∈ xs.drop i := by rw [h]; exact List.mem_cons_self ..
      exact List.mem_of_mem_drop this
    have hpx := hp x hxm
    cases e : p x with
    | true =>
      refine ⟨((i : Int), 0), ?_, by simp⟩
      rw [slices_IndexFunc__Sapi_Node_l0_eq]
      simp only [h2, h3, h4, hpx, e, cond_true, Option.bind_some, List.any_cons, Bool.true_or, if_true]
    | false =>
      refine ⟨n, ?_, hn0⟩
      rw [slices_IndexFunc__Sapi_Node_l0_eq]
      simp only [h2, h3, h4, hpx, e, cond_true, cond_false, Option.bind_some, List.any_cons, Bool.false_or, w_succ (show i < 9223372036854775807 by omega), hn]
theorem slices_ContainsFunc__Sapi_Node_s [Dfr] (xs : List (List Nd)) (f : FnV) (p : List Nd → Bool) (hx : xs.length ≤ 4611686018427387904) (hp : ∀ x ∈ xs, dyn E f [.one (.slice 40 (.pair (.int .i64) (.pair .str (.int .i64))) x .no)] .bool = some (p x)) : slices_ContainsFunc__Sapi_Node xs f = some (xs.any p) := by
  obtain ⟨n, hn, hn0⟩ := slices_IndexFunc__Sapi_Node_l0s xs f p 0 hx hp xs 0 rfl
  rw [Int.natCast_zero] at hn
  rw [slices_ContainsFunc__Sapi_Node_eq, slices_IndexFunc__Sapi_Node_eq]
  simp only [hn, Option.bind_some]
  cases e : xs.any p with
  | true => simp [Nat.beq, hn0]
  | false => simp [Nat.beq]
end Go.Proofs.YtgogodeknkoalaaGreatDoor.Sv
