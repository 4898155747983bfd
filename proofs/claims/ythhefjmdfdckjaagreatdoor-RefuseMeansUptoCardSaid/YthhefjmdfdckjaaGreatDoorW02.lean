/- What the functions of traces compute (package trace, redressref02): in plain words. -/
import Derived.Test.YthhefjmdfdckjaaGreatDoorW01
import Derived.Test.YthhefjmdfdckjaaGreatDoorM7
namespace Go.Proofs.YthhefjmdfdckjaaGreatDoor.Sv
open Go Go.Sv Go.Rd
set_option linter.unusedVariables false
set_option linter.unusedSimpArgs false

theorem cmp_Compare__int_s [Dfr] (x y : Int) : cmp_Compare__int x y = some (ordN (cmpI x y)) := by
  rw [cmp_Compare__int_eq, cmp_isNaN__int_eq, cmp_isNaN__int_eq]
  unfold cmpI
  by_cases h : x < y
  · simp [h, ordN]
  · by_cases h' : x = y
    · simp [h', ordN]
    · have h2 : y < x := by omega
      simp [h, h', h2, ordN]

theorem cmp_Compare__string_s [Dfr] (x y : ByteArray) : cmp_Compare__string x y = some (ordN (cmpB x y)) := by
  rw [cmp_Compare__string_eq, cmp_isNaN__string_eq, cmp_isNaN__string_eq]
  simp only [Option.bind_some, beq_self_eq_true, Bool.not_true, cond_false, strLess, str_eq]
  cases h : cmpB x y with
  | lt => simp [ordN]
  | eq =>
    have e := (ordB.eq x y).1 h
    simp [e, ordN]
  | gt =>
    have e : x ≠ y := fun e => by rw [e, ordB.rfl'] at h; cases h
    simp [e, ordN]

theorem cmp_Or__int2_s [Dfr] (a b : Int) : cmp_Or__int [a, b] = some (if a = 0 then b else a) := by
  rw [cmp_Or__int_eq, cmp_Or__int_l0_eq, cmp_Or__int_l0_eq, cmp_Or__int_l0_eq]
  by_cases h : a = 0
  · by_cases h' : b = 0
    · subst h; subst h'; rfl
    · subst h
      have e1 : (ix [0, b] 0 != 0) = false := rfl
      have e2 : (ix [0, b] (w64 (0 + 1)) != 0) = true := by show (b != 0) = true; simpa using h'
      simp only [e1, e2, cond_false, cond_true]
      rfl
  · have e1 : (ix [a, b] 0 != 0) = true := by show (a != 0) = true; simpa using h
    simp only [e1, cond_true, if_neg h]
    rfl

theorem ordN_then [Dfr] (a b : Ordering) : ordN (a.then b) = if ordN a = 0 then ordN b else ordN a := by cases a <;> rfl

theorem slices_Compare__string_l0s [Dfr] (xs ys : List ByteArray) (hx : xs.length ≤ 4611686018427387904) : ∀ (r s : List ByteArray) (i : Nat), xs.drop i = r → ys.drop i = s → i ≤ xs.length → i ≤ ys.length →
    ∃ e, slices_Compare__string_l0 xs ys 0 xs (xs.length : Int) (i : Int) = some e ∧ (bif Nat.beq e.1 0 then (bif (decide ((e.2.1.length : Int) < (e.2.2.1.length : Int))) then (some (-1)) else (some 0)) else (some e.2.2.2)) = some (ordN (cmpL cmpB r s))
  | [], s, i, h, k, hi, hj => by
    obtain ⟨h1, h2⟩ := drop_nil h
    refine ⟨(0, (xs, ys, 0)), ?_, ?_⟩
    · rw [slices_Compare__string_l0_eq]
      simp only [h2, cond_false]
    · have hk := congrArg List.length k
      rw [List.length_drop] at hk
      cases s with
      | nil =>
        rw [List.length_nil] at hk
        have e : decide ((xs.length : Int) < (ys.length : Int)) = false := decide_eq_false (by omega)
        simp only [e]
        rfl
      | cons y s =>
        rw [List.length_cons] at hk
        have e : decide ((xs.length : Int) < (ys.length : Int)) = true := decide_eq_true (by omega)
        simp only [e]
        rfl
  | x :: r, [], i, h, k, hi, hj => by
    obtain ⟨h1, h2, h3, h4, h5, h6⟩ := drop_cons h
    obtain ⟨k1, k2⟩ := drop_nil k
    refine ⟨(1, (xs, ys, 1)), ?_, rfl⟩
    rw [slices_Compare__string_l0_eq]
    simp only [h2, h3, cond_true, decide_eq_true (show (i : Int) ≥ (ys.length : Int) by omega)]
  | x :: r, y :: s, i, h, k, hi, hj => by
    obtain ⟨h1, h2, h3, h4, h5, h6⟩ := drop_cons h
    obtain ⟨k1, k2, k3, k4, k5, k6⟩ := drop_cons k
    obtain ⟨e, he, hr⟩ := slices_Compare__string_l0s xs ys hx r s (i + 1) h5 k5 (by omega) (by omega)
    rw [cmpL, ordN_then]
    by_cases hc : ordN (cmpB x y) = 0
    · refine ⟨e, ?_, by rw [if_pos hc]; exact hr⟩
      rw [slices_Compare__string_l0_eq]
      have e1 : (ordN (cmpB x y) != 0) = false := by simp [hc]
      simp only [h2, h3, h4, k3, k4, cond_true, decide_eq_false (show ¬ (i : Int) ≥ (ys.length : Int) by omega), cond_false, cmp_Compare__string_s, Option.bind_some, e1, w_succ (show i < 9223372036854775807 by omega), he]
    · refine ⟨(1, (xs, ys, ordN (cmpB x y))), ?_, by rw [if_neg hc]; rfl⟩
      rw [slices_Compare__string_l0_eq]
      have e1 : (ordN (cmpB x y) != 0) = true := by simpa using hc
      simp only [h2, h3, h4, k3, k4, cond_true, decide_eq_false (show ¬ (i : Int) ≥ (ys.length : Int) by omega), cond_false, cmp_Compare__string_s, Option.bind_some, e1]

theorem slices_Compare__string_s [Dfr] (xs ys : List ByteArray) (hx : xs.length ≤ 4611686018427387904) : slices_Compare__string xs ys = some (ordN (cmpA xs ys)) := by
  obtain ⟨e, he, hr⟩ := slices_Compare__string_l0s xs ys hx xs ys 0 rfl rfl (by omega) (by omega)
  rw [Int.natCast_zero] at he
  rw [slices_Compare__string_eq, he, Option.bind_some]
  exact hr

theorem trace_Trace_compare_s [Dfr] (x y : Tc) (hx : x.1.length ≤ 4611686018427387904) : trace_Trace_compare x y = some (ordN (cmpT x y)) := by
  rw [trace_Trace_compare_eq, slices_Compare__string_s _ _ hx, Option.bind_some, cmp_Compare__int_s, Option.bind_some, cmp_Or__int2_s, Option.bind_some]
  show _ = some (ordN (Ordering.then _ _))
  rw [ordN_then]

theorem trace_Compare_s [Dfr] (x y : Tc) (hx : x.1.length ≤ 4611686018427387904) : trace_Compare x y = some (ordN (cmpT x y)) := by
  rw [trace_Compare_eq, trace_Trace_compare_s x y hx]; rfl

theorem ordN_beq [Dfr] (o : Ordering) : (ordN o == 0) = decide (o = .eq) := by cases o <;> rfl

theorem trace_Set_1_s [Dfr] (x y : Tc) (hx : x.1.length ≤ 4611686018427387904) : trace_Set_1 x y = some (decide (cmpT x y = .eq)) := by
  rw [trace_Set_1_eq, trace_Trace_compare_s x y hx, Option.bind_some, ordN_beq]

/-- Short rows alone. -/
def shortT (l : List Tc) : Prop := ∀ x ∈ l, x.1.length ≤ 4611686018427387904

theorem trace_Set_s [Dfr] (l : List Tc) (hl : l.length ≤ 1000000000) (hs : shortT l) : trace_Set l = some (canon cmpT l) := by
  rw [trace_Set_eq, slices_Clone__trace_Trace_s l hl, Option.bind_some]
  simp only [Option.bind_fun_some]
  exact sort_compact (u := .pair (.slice 9 .str) (.int .i64)) ordT (by omega) (fun x hx y hy => (trace_Trace_compare_dyn x.1 x.2 y.1 y.2).trans (trace_Trace_compare_s x y (hs x hx)))
    (fun x hx y hy => (trace_Set_1_dyn x.1 x.2 y.1 y.2).trans (trace_Set_1_s x y (hs x hx)))

theorem any_eqT [Dfr] (l : List Tc) (t : Tc) : (l.any fun x => decide (cmpT x t = .eq)) = decide (t ∈ l) := by
  rw [Bool.eq_iff_iff, List.any_eq_true, decide_eq_true_iff]
  constructor
  · rintro ⟨x, hx, h⟩
    rw [decide_eq_true_iff, ordT.eq] at h
    rw [← h]; exact hx
  · exact fun h => ⟨t, h, by rw [decide_eq_true_iff, ordT.eq]⟩

theorem trace_Then_s [Dfr] (p q : Tc) (hl : p.1.length + q.1.length ≤ 1000000000) : trace_Then p q = some (thenT p q) := by
  rw [trace_Then_eq]
  unfold thenT
  by_cases h : p.2 = 1
  · have e : (p.2 != 1) = false := by simp [h]
    rw [e, cond_false, slices_Concat__string_s [p.1, q.1] (by simp only [sumLen]; omega) (by simp), if_pos h]
    simp
  · have e : (p.2 != 1) = true := by simpa using h
    rw [e, cond_true, slices_Clone__string_s p.1 (by omega), if_neg h]
    rfl

/-- What is asked of trace.Mix. -/
def mix_spec (a b : List ByteArray) : Option (List (List ByteArray)) := if a.length + b.length ≤ 1000000 ∧ (mixes [] a b).length ≤ 1000000 then some (mixS a b) else none

class HasMix [Dfr] : Prop where
  eq : ∀ a b, Dfr.d_trace_Mix a b = mix_spec a b

theorem trace_Mix_s [Dfr] [HasMix] (a b : List ByteArray) (h : a.length + b.length ≤ 19) : trace_Mix a b = some (mixS a b) := by
  rw [trace_Mix_eq]
  show Dfr.d_trace_Mix a b = _
  rw [HasMix.eq]
  unfold mix_spec
  have := length_mixes_le (D := []) h
  rw [if_pos ⟨by omega, by omega⟩]

theorem trace_Par_l0s [Dfr] (e : Int) (xs : List (List ByteArray)) (hx : xs.length ≤ 1000000000) : ∀ (r : List (List ByteArray)) (i : Nat) (acc : List Tc), xs.drop i = r → acc.length ≤ i → trace_Par_l0 e acc xs (xs.length : Int) (i : Int) = some (0, acc ++ r.map fun l => (l, e))
  | [], i, acc, h, ha => by
    obtain ⟨h1, h2⟩ := drop_nil h
    rw [trace_Par_l0_eq]
    simp only [h2, cond_false, List.map_nil, List.append_nil]
  | x :: r, i, acc, h, ha => by
    obtain ⟨h1, h2, h3, h4, h5, h6⟩ := drop_cons h
    rw [trace_Par_l0_eq]
    simp only [h2, h3, h4, cond_true, room (show (acc.length + 1) * 32 ≤ 140737488355328 by omega), w_succ (show i < 9223372036854775807 by omega), trace_Par_l0s e xs hx r (i + 1) (acc ++ [(x, e)]) h5 (by simp; omega), List.map_cons, List.append_assoc, List.singleton_append]

theorem trace_Par_s [Dfr] [HasMix] (p q : Tc) (h : p.1.length + q.1.length ≤ 19) : trace_Par p q = some (parE (bs p.2 q.2) p.1 q.1) := by
  have hl := length_mixS_le h
  have e0 := trace_Par_l0s (bs p.2 q.2) (mixS p.1 q.1) (by omega) (mixS p.1 q.1) 0 [] rfl (by simp)
  rw [Int.natCast_zero] at e0
  rw [trace_Par_eq, sign_Both_s, Option.bind_some, trace_Mix_s _ _ h, Option.bind_some, e0]
  rfl

/-! ### the document's -/
theorem ref02_Row_l0s [Dfr] (xs ys : List ByteArray) (hx : xs.length ≤ 4611686018427387904) (hy : ys.length ≤ 4611686018427387904) : ∀ (r s : List ByteArray) (i : Nat), xs.drop i = r → ys.drop i = s → i ≤ xs.length → i ≤ ys.length →
    ∃ e n, ref02_Row_l0 xs ys 0 (i : Int) = some e ∧ (bif Nat.beq e.1 0 then (some (w64 ((e.2.1.length : Int) - (e.2.2.1.length : Int)))) else (some e.2.2.2)) = some n ∧ (n < 0 ↔ cmpL cmpB r s = .lt) ∧ (0 < n ↔ cmpL cmpB r s = .gt)
  | [], s, i, h, k, hi, hj => by
    obtain ⟨h1, h2⟩ := drop_nil h
    have hk := congrArg List.length k
    rw [List.length_drop] at hk
    refine ⟨(0, (xs, ys, 0)), (xs.length : Int) - (ys.length : Int), ?_, ?_, ?_⟩
    · rw [ref02_Row_l0_eq]
      simp only [h2, cond_false]
    · show some (w64 ((xs.length : Int) - (ys.length : Int))) = _
      rw [w64_id (by omega) (by omega)]
    · cases s with
      | nil => rw [List.length_nil] at hk; exact ⟨by simp [cmpL]; omega, by simp [cmpL]; omega⟩
      | cons y s => rw [List.length_cons] at hk; exact ⟨by simp [cmpL]; omega, by simp [cmpL]; omega⟩
  | x :: r, [], i, h, k, hi, hj => by
    obtain ⟨h1, h2, h3, h4, h5, h6⟩ := drop_cons h
    obtain ⟨k1, k2⟩ := drop_nil k
    refine ⟨(0, (xs, ys, 0)), (xs.length : Int) - (ys.length : Int), ?_, ?_, ?_⟩
    · rw [ref02_Row_l0_eq]
      simp only [h2, k2, cond_false, cond_true]
    · show some (w64 ((xs.length : Int) - (ys.length : Int))) = _
      rw [w64_id (by omega) (by omega)]
    · exact ⟨by simp [cmpL]; omega, by simp [cmpL]; omega⟩
  | x :: r, y :: s, i, h, k, hi, hj => by
    obtain ⟨h1, h2, h3, h4, h5, h6⟩ := drop_cons h
    obtain ⟨k1, k2, k3, k4, k5, k6⟩ := drop_cons k
    obtain ⟨e, n, he, hn, hr⟩ := ref02_Row_l0s xs ys hx hy r s (i + 1) h5 k5 (by omega) (by omega)
    rw [cmpL]
    cases hc : cmpB x y with
    | lt =>
      refine ⟨(1, (xs, ys, -1)), -1, ?_, rfl, by simp [Ordering.then], by simp [Ordering.then]⟩
      rw [ref02_Row_l0_eq]
      simp only [h2, h3, h4, k2, k3, k4, cond_true, strLess, hc, decide_true]
    | eq =>
      have exy := (ordB.eq x y).1 hc
      refine ⟨e, n, ?_, hn, by simpa [Ordering.then] using hr⟩
      rw [ref02_Row_l0_eq]
      simp only [h2, h3, h4, k2, k3, k4, cond_true, strLess, hc, str_eq, exy, decide_true, Bool.or_true, Bool.not_true, cond_false, w_succ (show i < 9223372036854775807 by omega), he]
      simp [ordB.rfl']
    | gt =>
      have exy : x ≠ y := fun e => by rw [e, ordB.rfl'] at hc; cases hc
      refine ⟨(1, (xs, ys, 1)), 1, ?_, rfl, by simp [Ordering.then], by simp [Ordering.then]⟩
      rw [ref02_Row_l0_eq]
      simp only [h2, h3, h4, k2, k3, k4, cond_true, strLess, hc, str_eq, exy, decide_false]
      rfl

theorem ref02_Row_s [Dfr] (xs ys : List ByteArray) (hx : xs.length ≤ 4611686018427387904) (hy : ys.length ≤ 4611686018427387904) : ∃ n, ref02_Row xs ys = some n ∧ (n < 0 ↔ cmpA xs ys = .lt) ∧ (0 < n ↔ cmpA xs ys = .gt) := by
  obtain ⟨e, n, he, hn, hr⟩ := ref02_Row_l0s xs ys hx hy xs ys 0 rfl rfl (by omega) (by omega)
  rw [Int.natCast_zero] at he
  refine ⟨n, ?_, hr⟩
  rw [ref02_Row_eq, he, Option.bind_some]
  exact hn

theorem ref02_Compare_s [Dfr] (x y : Tc) (hx : x.1.length ≤ 4611686018427387904) (hy : y.1.length ≤ 4611686018427387904) : ref02_Compare x y = some (ordN (cmpT x y)) := by
  obtain ⟨n, hn, h1, h2⟩ := ref02_Row_s x.1 y.1 hx hy
  rw [ref02_Compare_eq, hn, Option.bind_some]
  show _ = some (ordN (Ordering.then _ _))
  cases hc : cmpA x.1 y.1 with
  | lt =>
    have a := h1.2 hc
    have e : (n == 0) = false := by simp; omega
    simp only [e, cond_false, decide_eq_true a, cond_true]
    rfl
  | gt =>
    have a := h2.2 hc
    have e : (n == 0) = false := by simp; omega
    simp only [e, cond_false, decide_eq_false (show ¬ n < 0 by omega), decide_eq_true (show n > 0 from a), cond_true]
    rfl
  | eq =>
    have a : n = 0 := by
      have b1 : ¬ n < 0 := fun h => by rw [h1, hc] at h; cases h
      have b2 : ¬ 0 < n := fun h => by rw [h2, hc] at h; cases h
      omega
    subst a
    show _ = some (ordN (cmpI x.2 y.2))
    unfold cmpI
    by_cases c1 : x.2 < y.2
    · simp [c1, ordN]
    · by_cases c2 : x.2 = y.2
      · simp [c2, ordN]
      · have c3 : y.2 < x.2 := by omega
        simp [c1, c2, c3, ordN]

theorem ref02_Same_l0s [Dfr] (xs ys : List Tc) (b : Bool) (hx : xs.length ≤ 4611686018427387904) (hl : xs.length = ys.length) (sx : shortT xs) (sy : shortT ys) : ∀ (r : List Tc) (i : Nat), xs.drop i = r → ref02_Same_l0 xs ys b (i : Int) = some (if r = ys.drop i then (0, b) else (1, false))
  | [], i, h => by
    rw [ref02_Same_l0_eq]
    obtain ⟨h1, h2⟩ := drop_nil h
    simp only [h2, cond_false, List.drop_eq_nil_of_le (show ys.length ≤ i by omega), if_true]
  | x :: r, i, h => by
    rw [ref02_Same_l0_eq]
    obtain ⟨h1, h2, h3, h4, h5, h6⟩ := drop_cons h
    cases hy : ys.drop i with
    | nil => have := List.drop_eq_nil_iff.1 hy; omega
    | cons y s =>
      obtain ⟨k1, k2, k3, k4, k5, k6⟩ := drop_cons hy
      have mx : x ∈ xs := List.mem_of_mem_drop (by rw [h]; exact List.mem_cons_self ..)
      have my : y ∈ ys := List.mem_of_mem_drop (by rw [hy]; exact List.mem_cons_self ..)
      have e0 : (ordN (cmpT x y) != 0) = !decide (x = y) := by
        rw [← decide_eq_decide.2 (ordT.eq x y), ← ordN_beq]; rfl
      simp only [h2, h3, h4, k3, k4, cond_true, ref02_Compare_s x y (sx x mx) (sy y my), Option.bind_some, e0, w_succ (show i < 9223372036854775807 by omega), ref02_Same_l0s xs ys b hx hl sx sy r (i + 1) h5, k5]
      by_cases e : x = y
      · simp [e]
      · simp [e]

theorem ref02_Same_s [Dfr] (xs ys : List Tc) (hx : xs.length ≤ 4611686018427387904) (sx : shortT xs) (sy : shortT ys) : ref02_Same xs ys = some (decide (xs = ys)) := by
  rw [ref02_Same_eq]
  by_cases hl : xs.length = ys.length
  · have h1 : ((xs.length : Int) != (ys.length : Int)) = false := by simp [hl]
    have := ref02_Same_l0s xs ys false hx hl sx sy xs 0 rfl
    simp only [Int.natCast_zero, List.drop_zero] at this
    simp only [h1, cond_false, this, Option.bind_some]
    by_cases e : xs = ys <;> simp [e, Nat.beq]
  · have h1 : ((xs.length : Int) != (ys.length : Int)) = true := by simp; omega
    have h2 : xs ≠ ys := fun e => hl (by rw [e])
    simp [h1, h2]

theorem ref02_merge_l0s [Dfr] (a b : List Tc) (ha : a.length ≤ 1000000000) (hb : b.length ≤ 1000000000) (sa : shortT a) (sb : shortT b) : ∀ (n : Nat) (r s : List Tc) (i j : Nat) (acc : List Tc), r.length + s.length ≤ n → a.drop i = r → b.drop j = s → i ≤ a.length → j ≤ b.length → acc.length ≤ i + j →
    ref02_merge_l0 a b acc (i : Int) (j : Int) = some (0, acc ++ mergeC cmpT r s)
  | n, [], [], i, j, acc, hn, h, k, hi, hj, hc => by
    obtain ⟨h1, h2⟩ := drop_nil h
    obtain ⟨k1, k2⟩ := drop_nil k
    rw [ref02_merge_l0_eq, mergeC]
    simp only [h2, k2, cond_false, List.append_nil]
  | 0, [], y :: s, i, j, acc, hn, h, k, hi, hj, hc => by simp at hn
  | 0, x :: r, s, i, j, acc, hn, h, k, hi, hj, hc => by simp at hn
  | n + 1, [], y :: s, i, j, acc, hn, h, k, hi, hj, hc => by
    obtain ⟨h1, h2⟩ := drop_nil h
    obtain ⟨k1, k2, k3, k4, k5, k6⟩ := drop_cons k
    have e : ((i : Int) == (a.length : Int)) = true := by simp; omega
    have ih := ref02_merge_l0s a b ha hb sa sb n [] s i (j + 1) (acc ++ [y]) (by simp at hn ⊢; omega) h k5 hi (by omega) (by simp; omega)
    rw [ref02_merge_l0_eq, mergeC]
    simp only [h2, k2, k3, k4, cond_true, cond_false, e, room (show (acc.length + 1) * 32 ≤ 140737488355328 by omega), w_succ (show j < 9223372036854775807 by omega), ih]
    cases s <;> simp [mergeC]
  | n + 1, x :: r, [], i, j, acc, hn, h, k, hi, hj, hc => by
    obtain ⟨h1, h2, h3, h4, h5, h6⟩ := drop_cons h
    obtain ⟨k1, k2⟩ := drop_nil k
    have e : ((i : Int) == (a.length : Int)) = false := by simp; omega
    have ih := ref02_merge_l0s a b ha hb sa sb n r [] (i + 1) j (acc ++ [x]) (by simp at hn ⊢; omega) h5 k (by omega) hj (by simp; omega)
    rw [ref02_merge_l0_eq, mergeC]
    simp only [h2, h3, h4, k2, cond_true, cond_false, e, room (show (acc.length + 1) * 32 ≤ 140737488355328 by omega), w_succ (show i < 9223372036854775807 by omega), ih]
    cases r <;> simp [mergeC]
  | n + 1, x :: r, y :: s, i, j, acc, hn, h, k, hi, hj, hc => by
    obtain ⟨h1, h2, h3, h4, h5, h6⟩ := drop_cons h
    obtain ⟨k1, k2, k3, k4, k5, k6⟩ := drop_cons k
    have e : ((i : Int) == (a.length : Int)) = false := by simp; omega
    have mx : x ∈ a := List.mem_of_mem_drop (by rw [h]; exact List.mem_cons_self ..)
    have my : y ∈ b := List.mem_of_mem_drop (by rw [k]; exact List.mem_cons_self ..)
    have wi := w_succ (show i < 9223372036854775807 by omega)
    have wj := w_succ (show j < 9223372036854775807 by omega)
    have rm := room (show (acc.length + 1) * 32 ≤ 140737488355328 by omega)
    rw [ref02_merge_l0_eq, mergeC]
    simp only [h2, h3, h4, k2, k3, k4, cond_true, cond_false, e, ref02_Compare_s x y (sa x mx) (sb y my), Option.bind_some, rm, wi, wj]
    simp only [List.length_cons] at hn
    cases hcm : cmpT x y with
    | lt =>
      have ih := ref02_merge_l0s a b ha hb sa sb n r (y :: s) (i + 1) j (acc ++ [x]) (by simp only [List.length_cons]; omega) h5 k (by omega) hj (by simp; omega)
      rw [List.append_assoc, List.singleton_append] at ih
      exact ih
    | eq =>
      have ih := ref02_merge_l0s a b ha hb sa sb n r s (i + 1) (j + 1) (acc ++ [x]) (by omega) h5 k5 (by omega) (by omega) (by simp; omega)
      rw [List.append_assoc, List.singleton_append] at ih
      exact ih
    | gt =>
      have ih := ref02_merge_l0s a b ha hb sa sb n (x :: r) s i (j + 1) (acc ++ [y]) (by simp only [List.length_cons]; omega) h k5 hi (by omega) (by simp; omega)
      rw [List.append_assoc, List.singleton_append] at ih
      exact ih

theorem ref02_merge_s [Dfr] (a b : List Tc) (ha : a.length ≤ 1000000000) (hb : b.length ≤ 1000000000) (sa : shortT a) (sb : shortT b) : ref02_merge a b = some (mergeC cmpT a b) := by
  have e := ref02_merge_l0s a b ha hb sa sb (a.length + b.length) a b 0 0 [] (Nat.le_refl _) rfl rfl (by omega) (by omega) (by simp)
  rw [Int.natCast_zero] at e
  rw [ref02_merge_eq, e]
  rfl

theorem short_canon [Dfr] {l : List Tc} (h : shortT l) : shortT (canon cmpT l) := fun x hx => h x ((mem_canon ordT).1 hx)

theorem ref02_Set_s [Dfr] : ∀ (n : Nat) (l : List Tc), l.length ≤ n → l.length ≤ 1000000000 → shortT l → ref02_Set l = some (canon cmpT l)
  | 0, l, hn, hl, hs => by
    have : l = [] := List.length_eq_zero_iff.1 (by omega)
    subst this
    rw [ref02_Set_eq]; rfl
  | n + 1, l, hn, hl, hs => by
    rw [ref02_Set_eq]
    by_cases h2 : l.length < 2
    · rw [decide_eq_true (show (l.length : Int) < 2 by omega), cond_true]
      match l, h2 with
      | [], _ => rfl
      | [x], _ => rfl
    · rw [decide_eq_false (show ¬ (l.length : Int) < 2 by omega), cond_false]
      have hd : w64 ((l.length : Int).tdiv 2) = ((l.length / 2 : Nat) : Int) := by
        rw [Int.tdiv_eq_ediv_of_nonneg (by omega)]
        exact w64_id (by omega) (by omega)
      rw [hd, cutOk_zero (show l.length / 2 ≤ l.length by omega), cond_true, cut_zero, cut_end, cutOk_nat (show l.length / 2 ≤ l.length by omega) (Nat.le_refl _)]
      simp only [cond_true]
      have h3 : (l.take (l.length / 2)).length ≤ n := by rw [List.length_take]; omega
      have h4 : (l.drop (l.length / 2)).length ≤ n := by rw [List.length_drop]; omega
      have s3 : shortT (l.take (l.length / 2)) := fun x hx => hs x (List.mem_of_mem_take hx)
      have s4 : shortT (l.drop (l.length / 2)) := fun x hx => hs x (List.mem_of_mem_drop hx)
      have l3 := length_canon_le (c := cmpT) (l.take (l.length / 2))
      have l4 := length_canon_le (c := cmpT) (l.drop (l.length / 2))
      rw [List.length_take] at l3
      rw [List.length_drop] at l4
      rw [ref02_Set_s n _ h3 (by rw [List.length_take]; omega) s3, Option.bind_some, ref02_Set_s n _ h4 (by rw [List.length_drop]; omega) s4, Option.bind_some,
        ref02_merge_s _ _ (by omega) (by omega) (short_canon s3) (short_canon s4), Option.bind_some, mergeC_canon ordT, List.take_append_drop]

theorem ref02_Or_s [Dfr] (a b : List Tc) (ha : a.length ≤ 1000000000) (hb : b.length ≤ 1000000000) (sa : shortT a) (sb : shortT b) : ref02_Or a b = some (canon cmpT (a ++ b)) := by
  have l3 := length_canon_le (c := cmpT) a
  have l4 := length_canon_le (c := cmpT) b
  rw [ref02_Or_eq, ref02_Set_s _ a (Nat.le_refl _) ha sa, Option.bind_some, ref02_Set_s _ b (Nat.le_refl _) hb sb, Option.bind_some, ref02_merge_s _ _ (by omega) (by omega) (short_canon sa) (short_canon sb), mergeC_canon ordT]
  rfl

end Go.Proofs.YthhefjmdfdckjaaGreatDoor.Sv
