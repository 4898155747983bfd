/- What the functions of traces compute (package trace, redressref02): in plain words. -/
import Derived.Test.YtdbabacjmkfkgaaGreatDoorW01
import Derived.Test.YtdbabacjmkfkgaaGreatDoorM7
namespace Go.Proofs.YtdbabacjmkfkgaaGreatDoor.Sv
open Go Go.Sv Go.Rd
set_option linter.unusedVariables false
set_option linter.unusedSimpArgs false
theorem cmp_Compare__int_s [Dfr] (x y : Int) : cmp_Compare__int x y = some (ordN (cmpI x y)) := by
  rw [cmp_Compare__int_eq, cmp_isNaN__int_eq, cmp_isNaN__int_eq]
  unfold cmpI
  by_cases h : x < y
  · simp [h, ordN]
  · by_cases h' : x = y
    · simp [h', ordN]
    · have h2 : y < x := by omega
      simp [h, h', h2, ordN]
theorem cmp_Compare__string_s [Dfr] (x y : ByteArray) : cmp_Compare__string x y = some (ordN (cmpB x y)) := by
  rw [cmp_Compare__string_eq, cmp_isNaN__string_eq, cmp_isNaN__string_eq]
  simp only [Option.bind_some, beq_self_eq_true, Bool.not_true, cond_false, strLess, str_eq]
  cases h : cmpB x y with
  | lt => simp [ordN]
  | eq =>
    have e := (ordB.eq x y).1 h
    simp [e, ordN]
  | gt =>
    have e : x ≠ y := fun e => by rw [e, ordB.rfl'] at h; cases h
    simp [e, ordN]
theorem cmp_Or__int2_s [Dfr] (a b : Int) : cmp_Or__int [a, b] = some (if a = 0 then b else a) := by
  rw [cmp_Or__int_eq, cmp_Or__int_l0_eq, cmp_Or__int_l0_eq, cmp_Or__int_l0_eq]
  by_cases h : a = 0
  · by_cases h' : b = 0
    · subst h; subst h'; rfl
    · subst h
      have e1 : (ix [0, b] 0 != 0) = false := rfl
      have e2 : (ix [0, b] (w64 (0 + 1)) != 0) = true := by show (b != 0) = true; simpa using h'
      simp only [e1, e2, cond_false, cond_true]
      rfl
  · have e1 : (ix [a, b] 0 != 0) = true := by show (a != 0) = true; simpa using h
    simp only [e1, cond_true, if_neg h]
    rfl
theorem ordN_then [Dfr] (a b : Ordering) : ordN (a.then b) = if ordN a = 0 then ordN b else ordN a := by cases a <;> rfl
theorem slices_Compare__string_l0s [Dfr] (xs ys : List ByteArray) (hx : xs.length ≤ 4611686018427387904) : ∀ (r s : List ByteArray) (i : Nat), xs.drop i = r → ys.drop i = s → i ≤ xs.length → i ≤ ys.length →
    ∃ e, slices_Compare__string_l0 xs ys 0 xs (xs.length : Int) (i : Int) = some e ∧ (bif Nat.beq e.1 0 then (bif (decide ((e.2.1.length : Int) < (e.2.2.1.length : Int))) then (some (-1)) else (some 0)) else (some e.2.2.2)) = some (ordN (cmpL cmpB r s))
  | [], s, i, h, k, hi, hj => by
    obtain ⟨h1, h2⟩ := drop_nil h
    refine ⟨(0, (xs, ys, 0)), ?_, ?_⟩
    · rw [slices_Compare__string_l0_eq]
      simp only [h2, cond_false]
    · have hk := congrArg List.length k
      rw [List.length_drop] at hk
      cases s with
      | nil =>
        rw [List.length_nil] at hk
        have e : decide ((xs.length : Int) < (ys.length : Int)) = false := decide_eq_false (by omega)
        simp only [e]
        rfl
      | cons y s =>
        rw [List.length_cons] at hk
        have e : decide ((xs.length : Int) < (ys.length : Int)) = true := decide_eq_true (by omega)
        simp only [e]
        rfl
  | x :: r, [], i, h, k, hi, hj => by
    obtain ⟨h1, h2, h3, h4, h5, h6⟩ := drop_cons h
    obtain ⟨k1, k2⟩ := drop_nil k
    refine ⟨(1, (xs, ys, 1)), ?_, rfl⟩
    rw [slices_Compare__string_l0_eq]
    simp only [h2, h3, cond_true, decide_eq_true (show (i : Int) ≥ (ys.length : Int) by omega)]
  | x :: r, y :: s, i, h, k, hi, hj => by
    obtain ⟨h1, h2, h3, h4, h5, h6⟩ := drop_cons h
    obtain ⟨k1, k2, k3, k4, k5, k6⟩ := drop_cons k
    obtain ⟨e, he, hr⟩ := slices_Compare__string_l0s xs ys hx r s (i + 1) h5 k5 (by omega) (by omega)
    rw [cmpL, ordN_then]
    by_cases hc : ordN (cmpB x y) = 0
    · refine ⟨e, ?_, by rw [if_pos hc]; exact hr⟩
      rw [slices_Compare__string_l0_eq]
      have e1 : (ordN (cmpB x y) != 0) = false := by simp [hc]
      simp only [h2, h3, h4, k3, k4, cond_true, decide_eq_false (show ¬ (i : Int) ≥ (ys.length : Int) by omega), cond_false, cmp_Compare__string_s, Option.bind_some, e1, w_succ (show i < 9223372036854775807 by omega), he]
    · refine ⟨(1, (xs, ys, ordN (cmpB x y))), ?_, by rw [if_neg hc]; rfl⟩
      rw [slices_Compare__string_l0_eq]
      have e1 : (ordN (cmpB x y) != 0) = true := by simpa using hc
      simp only [h2, h3, h4, k3, k4, cond_true, decide_eq_false (show ¬ (i : Int) ≥ (ys.length : Int) by omega), cond_false, cmp_Compare__string_s, Option.bind_some, e1]
theorem slices_Compare__string_s [Dfr] (xs ys : List ByteArray) (hx : xs.length ≤ 4611686018427387904) : slices_Compare__string xs ys = some (ordN (cmpA xs ys)) := by
  obtain ⟨e, he, hr⟩ := slices_Compare__string_l0s xs ys hx xs ys 0 rfl rfl (by omega) (by omega)
  rw [Int.natCast_zero] at he
  rw [slices_Compare__string_eq, he, Option.bind_some]
  exact hr
theorem trace_Trace_compare_s [Dfr] (x y : Tc) (hx : x.1.length ≤ 4611686018427387904) : trace_Trace_compare x y = some (ordN (cmpT x y)) := by
  rw [trace_Trace_compare_eq, slices_Compare__string_s _ _ hx, Option.bind_some, cmp_Compare__int_s, Option.bind_some, cmp_Or__int2_s, Option.bind_some]
  show _ = some (ordN (Ordering.then _ _))
  rw [ordN_then]
theorem trace_Compare_s [Dfr] (x y : Tc) (hx : x.1.length ≤ 4611686018427387904) : trace_Compare x y = some (ordN (cmpT x y)) := by
  rw [trace_Compare_eq, trace_Trace_compare_s x y hx]; rfl
theorem ordN_beq [Dfr] (o : Ordering) : (ordN o == 0) = decide (o = .eq) := by cases o <;> rfl
theorem trace_Set_1_s [Dfr] (x y : Tc) (hx : x.1.length ≤ 4611686018427387904) : trace_Set_1 x y = some (decide (cmpT x y = .eq)) := by
  rw [trace_Set_1_eq, trace_Trace_compare_s x y hx, Option.bind_some, ordN_beq]
/-- Short rows alone. -/
def shortT (l : List Tc) : Prop := ∀ x ∈ l, x.1.length ≤ 4611686018427387904
theorem trace_Set_s [Dfr] (l : List Tc) (hl : l.length ≤ 1000000000) (hs : shortT l) : trace_Set l = some (canon cmpT l) := by
  rw [trace_Set_eq, slices_Clone__trace_Trace_s l hl, Option.bind_some]
  simp only [Option.bind_fun_some]
  exact sort_compact (u := .pair (.slice 9 .str) (.int .i64)) ordT (by omega) (fun x hx y hy => (trace_Trace_compare_dyn x.1 x.2 y.1 y.2).trans (trace_Trace_compare_s x y (hs x hx)))
    (fun x hx y hy => (trace_Set_1_dyn x.1 x.2 y.1 y.2).trans (trace_Set_1_s x y (hs x hx)))
theorem trace_Then_s [Dfr] (p q : Tc) (hl : p.1.length + q.1.length ≤ 1000000000) : trace_Then p q = some (thenT p q) := by
  rw [trace_Then_eq]
  unfold thenT
  by_cases h : p.2 = 1
  · have e : (p.2 != 1) = false := by simp [h]
    rw [e, cond_false, slices_Concat__string_s [p.1, q.1] (by simp only [sumLen]; omega) (by simp), if_pos h]
    simp
  · have e : (p.2 != 1) = true := by simpa using h
    rw [e, cond_true, slices_Clone__string_s p.1 (by omega), if_neg h]
    rfl
/-- What is asked of trace.Mix. -/
def mix_spec (a b : List ByteArray) : Option (List (List ByteArray)) := if a.length + b.length ≤ 1000000 ∧ (mixes [] a b).length ≤ 1000000 then some (mixS a b) else none
class HasMix [Dfr] : Prop where
  eq : ∀ a b, Dfr.d_trace_Mix a b = mix_spec a b
theorem trace_Mix_s [Dfr] [HasMix] (a b : List ByteArray) (h : a.length + b.length ≤ 19) : trace_Mix a b = some (mixS a b) := by
  rw [trace_Mix_eq]
  show Dfr.d_trace_Mix a b = _
  rw [HasMix.eq]
  unfold mix_spec
  have := length_mixes_le (D := []) h
  rw [if_pos ⟨by omega, by omega⟩]
theorem trace_Par_l0s [Dfr] (e : Int) (xs : List (List ByteArray)) (hx : xs.length ≤ 1000000000) : ∀ (r : List (List ByteArray)) (i : Nat) (acc : List Tc), xs.drop i = r → acc.length ≤ i → trace_Par_l0 e acc xs (xs.length : Int) (i : Int) = some (0, acc ++ r.map fun l => (l, e))
  | [], i, acc, h, ha => by
    obtain ⟨h1, h2⟩ := drop_nil h
    rw [trace_Par_l0_eq]
    simp only [h2, cond_false, List.map_nil, List.append_nil]
  | x :: r, i, acc, h, ha => by
    obtain ⟨h1, h2, h3, h4, h5, h6⟩ := drop_cons h
    rw [trace_Par_l0_eq]
    simp only [h2, h3, h4, cond_true, room (show (acc.length + 1) * 32 ≤ 140737488355328 by omega), w_succ (show i < 9223372036854775807 by omega), trace_Par_l0s e xs hx r (i + 1) (acc ++ [(x, e)]) h5 (by simp; omega), List.map_cons, List.append_assoc, List.singleton_append]
theorem trace_Par_s [Dfr] [HasMix] (p q : Tc) (h : p.1.length + q.1.length ≤ 19) : trace_Par p q = some (parE (bs p.2 q.2) p.1 q.1) := by
  have hl := length_mixS_le h
  have e0 := trace_Par_l0s (bs p.2 q.2) (mixS p.1 q.1) (by omega) (mixS p.1 q.1) 0 [] rfl (by simp)
  rw [Int.natCast_zero] at e0
  rw [trace_Par_eq, sign_Both_s, Option.bind_some, trace_Mix_s _ _ h, Option.bind_some, e0]
  rfl
end Go.Proofs.YtdbabacjmkfkgaaGreatDoor.Sv
