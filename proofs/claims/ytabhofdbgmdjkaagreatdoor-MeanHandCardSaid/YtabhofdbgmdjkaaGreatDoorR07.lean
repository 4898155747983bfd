/- What the reference's functions of layer 7 compute: in plain words. -/
import Derived.Test.YtabhofdbgmdjkaaGreatDoorW07
namespace Go.Proofs.YtabhofdbgmdjkaaGreatDoor.Sv
open Go Go.Sv Go.Rd
set_option linter.unusedVariables false
set_option linter.unusedSimpArgs false
theorem ref07_Compare_s [Dfr] (x y : Qc) (hx : x.1.1.length ≤ 4611686018427387904 ∧ x.2.1.length ≤ 4611686018427387904) (hy : y.1.1.length ≤ 4611686018427387904 ∧ y.2.1.length ≤ 4611686018427387904) : ref07_Compare x y = some (ordN (cmpQ x y)) := by
  rw [ref07_Compare_eq, ref02_Compare_s _ _ hx.1 hy.1, ref02_Compare_s _ _ hx.2 hy.2]
  simp only [Option.bind_some]
  show _ = some (ordN (Ordering.then _ _))
  rw [ordN_then]
  by_cases h : ordN (cmpT x.1 y.1) = 0
  · rw [if_pos h, h]; rfl
  · rw [if_neg h, show (ordN (cmpT x.1 y.1) == 0) = false by simpa using h]; rfl
theorem ref07_merge_l0s [Dfr] (a b : List Qc) (ha : a.length ≤ 1000000000) (hb : b.length ≤ 1000000000) (sa : shortQ a) (sb : shortQ b) : ∀ (n : Nat) (r s : List Qc) (i j : Nat) (acc : List Qc), r.length + s.length ≤ n → a.drop i = r → b.drop j = s → i ≤ a.length → j ≤ b.length → acc.length ≤ i + j →
    ∃ (p : List Qc) (i' j' : Nat), ref07_merge_l0 a b acc (i : Int) (j : Int) = some (0, (a, b, acc ++ p, (i' : Int), (j' : Int))) ∧ i' ≤ a.length ∧ j' ≤ b.length ∧ acc.length + p.length ≤ i' + j' ∧ p ++ a.drop i' ++ b.drop j' = mergeC cmpQ r s
  | n, [], s, i, j, acc, hn, h, k, hi, hj, hc => by
    obtain ⟨h1, h2⟩ := drop_nil h
    rw [ref07_merge_l0_eq]
    simp only [h2, cond_false]
    refine ⟨[], i, j, by simp, hi, hj, by simpa using hc, ?_⟩
    rw [h, k]
    cases s <;> simp [mergeC]
  | n, x :: r, [], i, j, acc, hn, h, k, hi, hj, hc => by
    obtain ⟨h1, h2, h3, h4, h5, h6⟩ := drop_cons h
    obtain ⟨k1, k2⟩ := drop_nil k
    rw [ref07_merge_l0_eq]
    simp only [h2, k2, cond_true, cond_false]
    refine ⟨[], i, j, by simp, hi, hj, by simpa using hc, ?_⟩
    rw [h, k]
    simp [mergeC]
  | 0, x :: r, y :: s, i, j, acc, hn, h, k, hi, hj, hc => by simp at hn
  | n + 1, x :: r, y :: s, i, j, acc, hn, h, k, hi, hj, hc => by
    obtain ⟨h1, h2, h3, h4, h5, h6⟩ := drop_cons h
    obtain ⟨k1, k2, k3, k4, k5, k6⟩ := drop_cons k
    have mx : x ∈ a := List.mem_of_mem_drop (by rw [h]; exact List.mem_cons_self ..)
    have my : y ∈ b := List.mem_of_mem_drop (by rw [k]; exact List.mem_cons_self ..)
    have wi := w_succ (show i < 9223372036854775807 by omega)
    have wj := w_succ (show j < 9223372036854775807 by omega)
    have rm := room (show (acc.length + 1) * 64 ≤ 140737488355328 by omega)
    rw [ref07_merge_l0_eq, mergeC]
    simp only [h2, h3, h4, k2, k3, k4, cond_true, cond_false, ref07_Compare_s x y (sa x mx) (sb y my), Option.bind_some, rm, wi, wj]
    simp only [List.length_cons] at hn
    cases hcm : cmpQ x y with
    | lt =>
      obtain ⟨p, i', j', e, g1, g2, g3, g4⟩ := ref07_merge_l0s a b ha hb sa sb n r (y :: s) (i + 1) j (acc ++ [x]) (by simp only [List.length_cons]; omega) h5 k (by omega) hj (by simp; omega)
      refine ⟨x :: p, i', j', ?_, g1, g2, by simp at g3 ⊢; omega, ?_⟩
      · rw [List.append_assoc, List.singleton_append] at e
        exact e
      · simp only [List.cons_append]
        rw [g4]
    | eq =>
      obtain ⟨p, i', j', e, g1, g2, g3, g4⟩ := ref07_merge_l0s a b ha hb sa sb n r s (i + 1) (j + 1) (acc ++ [x]) (by omega) h5 k5 (by omega) (by omega) (by simp; omega)
      refine ⟨x :: p, i', j', ?_, g1, g2, by simp at g3 ⊢; omega, ?_⟩
      · rw [List.append_assoc, List.singleton_append] at e
        exact e
      · simp only [List.cons_append]
        rw [g4]
    | gt =>
      obtain ⟨p, i', j', e, g1, g2, g3, g4⟩ := ref07_merge_l0s a b ha hb sa sb n (x :: r) s i (j + 1) (acc ++ [y]) (by simp only [List.length_cons]; omega) h k5 hi (by omega) (by simp; omega)
      refine ⟨y :: p, i', j', ?_, g1, g2, by simp at g3 ⊢; omega, ?_⟩
      · rw [List.append_assoc, List.singleton_append] at e
        exact e
      · simp only [List.cons_append]
        rw [g4]
theorem ref07_merge_s [Dfr] (a b : List Qc) (ha : a.length ≤ 1000000000) (hb : b.length ≤ 1000000000) (sa : shortQ a) (sb : shortQ b) : ref07_merge a b = some (mergeC cmpQ a b) := by
  obtain ⟨p, i, j, e, g1, g2, g3, g4⟩ := ref07_merge_l0s a b ha hb sa sb (a.length + b.length) a b 0 0 [] (Nat.le_refl _) rfl rfl (by omega) (by omega) (by simp)
  rw [Int.natCast_zero] at e
  simp only [List.length_nil, Nat.zero_add] at g3
  rw [ref07_merge_eq, e]
  simp only [Option.bind_some, List.nil_append, cutOk_nat g1 (Nat.le_refl _), cutOk_nat g2 (Nat.le_refl _), cut_end, cond_true, List.length_append, List.length_drop]
  rw [room (show (p.length + (a.length - i)) * 64 ≤ 140737488355328 by omega), cond_true, room (show (p.length + (a.length - i) + (b.length - j)) * 64 ≤ 140737488355328 by omega), cond_true, g4]
theorem short_canonQ [Dfr] {l : List Qc} (h : shortQ l) : shortQ (canon cmpQ l) := fun x hx => h x ((mem_canon ordQ).1 hx)
theorem ref07_Set_s [Dfr] : ∀ (n : Nat) (l : List Qc), l.length ≤ n → l.length ≤ 1000000000 → shortQ l → ref07_Set l = some (canon cmpQ l)
  | 0, l, hn, hl, hs => by
    have : l = [] := List.length_eq_zero_iff.1 (by omega)
    subst this
    rw [ref07_Set_eq]; rfl
  | n + 1, l, hn, hl, hs => by
    rw [ref07_Set_eq]
    by_cases h2 : l.length < 2
    · rw [decide_eq_true (show (l.length : Int) < 2 by omega), cond_true]
      match l, h2 with
      | [], _ => rfl
      | [x], _ => rfl
    · rw [decide_eq_false (show ¬ (l.length : Int) < 2 by omega), cond_false]
      have hd : w64 ((l.length : Int).tdiv 2) = ((l.length / 2 : Nat) : Int) := by
        rw [Int.tdiv_eq_ediv_of_nonneg (by omega)]
        exact w64_id (by omega) (by omega)
      rw [hd, cutOk_zero (show l.length / 2 ≤ l.length by omega), cond_true, cut_zero, cut_end, cutOk_nat (show l.length / 2 ≤ l.length by omega) (Nat.le_refl _)]
      simp only [cond_true]
      have h3 : (l.take (l.length / 2)).length ≤ n := by rw [List.length_take]; omega
      have h4 : (l.drop (l.length / 2)).length ≤ n := by rw [List.length_drop]; omega
      have s3 : shortQ (l.take (l.length / 2)) := fun x hx => hs x (List.mem_of_mem_take hx)
      have s4 : shortQ (l.drop (l.length / 2)) := fun x hx => hs x (List.mem_of_mem_drop hx)
      have l3 := length_canon_le (c := cmpQ) (l.take (l.length / 2))
      have l4 := length_canon_le (c := cmpQ) (l.drop (l.length / 2))
      rw [List.length_take] at l3
      rw [List.length_drop] at l4
      rw [ref07_Set_s n _ h3 (by rw [List.length_take]; omega) s3, Option.bind_some, ref07_Set_s n _ h4 (by rw [List.length_drop]; omega) s4, Option.bind_some,
        ref07_merge_s _ _ (by omega) (by omega) (short_canonQ s3) (short_canonQ s4), Option.bind_some, mergeC_canon ordQ, List.take_append_drop]
theorem ref07_behind_s [Dfr] (p q : Tc) (h : p.1.length + q.1.length ≤ 19) : ref07_behind p q = some (behT p q) := by
  rw [ref07_behind_eq, ref02_Cat_s _ _ (by omega)]
  rfl
/-- Two traces, by the kind of what they are of. -/
def twoF (k : Int) (p q : Tc) : List Tc := if k = 5 then [thenT p q] else if k = 7 then parE (bs p.2 q.2) p.1 q.1 else [handF p q]
theorem ref07_two_l2s [Dfr] (k : Int) (A B : List Tc) (hA : A.length ≤ 1000000000) (hB : B.length ≤ 1000000000) (i : Nat) (a : Tc) (ra : List Tc) (hi : A.drop i = a :: ra) (hs : ∀ b ∈ B, a.1.length + b.1.length ≤ 19) : ∀ (r : List Tc) (j : Nat) (acc : List Tc), B.drop j = r → acc.length + (r.flatMap (twoF k a)).length ≤ 1000000000 →
    ref07_two_l2 k A B acc (i : Int) (j : Int) = some (0, (k, A, B, acc ++ r.flatMap (twoF k a), (i : Int)))
  | [], j, acc, h, hl => by
    obtain ⟨h1, h2⟩ := drop_nil h
    rw [ref07_two_l2_eq]
    simp only [h2, cond_false, List.flatMap_nil, List.append_nil]
  | b :: r, j, acc, h, hl => by
    obtain ⟨g1, g2, g3, g4, g5, g6⟩ := drop_cons hi
    obtain ⟨h1, h2, h3, h4, h5, h6⟩ := drop_cons h
    have hm := hs b (List.mem_of_mem_drop (by rw [h]; exact List.mem_cons_self ..))
    have hw := w_succ (show j < 9223372036854775807 by omega)
    simp only [List.flatMap_cons, List.length_append] at hl
    have ih := ref07_two_l2s k A B hA hB i a ra hi hs r (j + 1) (acc ++ twoF k a b) h5 (by rw [List.length_append]; omega)
    rw [List.append_assoc] at ih
    rw [ref07_two_l2_eq]
    simp only [h2, h3, h4, g3, g4, cond_true, hw, List.flatMap_cons]
    rw [← ih]
    unfold twoF at hl ⊢
    by_cases e5 : k = 5
    · simp only [if_pos e5, List.length_singleton] at hl ⊢
      rw [show (k == 5) = true by simp [e5]]
      simp only [cond_true, ref02_Then_s a b (by omega), Option.bind_some, room (show (acc.length + 1) * 32 ≤ 140737488355328 by omega)]
    · simp only [if_neg e5] at hl ⊢
      rw [show (k == 5) = false by simpa using e5]
      by_cases e7 : k = 7
      · simp only [if_pos e7] at hl ⊢
        rw [show (k == 7) = true by simp [e7]]
        simp only [cond_true, cond_false, ref02_Par_s a b hm, Option.bind_some, room (show (acc.length + (parE (bs a.2 b.2) a.1 b.1).length) * 32 ≤ 140737488355328 by omega)]
      · simp only [if_neg e7, List.length_singleton] at hl ⊢
        rw [show (k == 7) = false by simpa using e7]
        unfold handF
        by_cases e2 : a.2 = 2
        · rw [show (a.2 == 2) = true by simp [e2], if_pos e2]
          simp only [cond_true, cond_false, ref07_behind_s a b hm, Option.bind_some, room (show (acc.length + 1) * 32 ≤ 140737488355328 by omega)]
        · rw [show (a.2 == 2) = false by simpa using e2, if_neg e2]
          simp only [cond_true, cond_false, room (show (acc.length + 1) * 32 ≤ 140737488355328 by omega)]
theorem ref07_two_l0s [Dfr] (k : Int) (A B : List Tc) (hA : A.length ≤ 1000000000) (hB : B.length ≤ 1000000000) (hs : ∀ a ∈ A, ∀ b ∈ B, a.1.length + b.1.length ≤ 19) : ∀ (r : List Tc) (i : Nat) (acc : List Tc), A.drop i = r → acc.length + (crossL r B (twoF k)).length ≤ 1000000000 →
    ref07_two_l0 k A B acc (i : Int) = some (0, acc ++ crossL r B (twoF k))
  | [], i, acc, h, hl => by
    obtain ⟨h1, h2⟩ := drop_nil h
    rw [ref07_two_l0_eq]
    simp only [h2, cond_false, crossL, List.flatMap_nil, List.append_nil]
  | a :: r, i, acc, h, hl => by
    obtain ⟨h1, h2, h3, h4, h5, h6⟩ := drop_cons h
    have hm : a ∈ A := List.mem_of_mem_drop (by rw [h]; exact List.mem_cons_self ..)
    have hc : crossL (a :: r) B (twoF k) = B.flatMap (twoF k a) ++ crossL r B (twoF k) := rfl
    rw [hc, List.length_append] at hl
    have e := ref07_two_l2s k A B hA hB i a r h (hs a hm) B 0 acc rfl (by omega)
    rw [Int.natCast_zero] at e
    rw [ref07_two_l0_eq]
    simp only [h2, cond_true, e, Option.bind_some, w_succ (show i < 9223372036854775807 by omega)]
    rw [ref07_two_l0s k A B hA hB hs r (i + 1) (acc ++ B.flatMap (twoF k a)) h5 (by rw [List.length_append]; omega), hc, List.append_assoc]
theorem ref07_two_s [Dfr] (k : Int) (hk : k ≠ 6) (A B : List Tc) (hA : A.length ≤ 1000000000) (hB : B.length ≤ 1000000000) (hs : ∀ a ∈ A, ∀ b ∈ B, a.1.length + b.1.length ≤ 19) (hl : (crossL A B (twoF k)).length ≤ 1000000000) : ref07_two k A B = some (crossL A B (twoF k)) := by
  have e := ref07_two_l0s k A B hA hB hs A 0 [] rfl (by simpa using hl)
  rw [Int.natCast_zero] at e
  rw [ref07_two_eq, e, show (k == 6) = false by simpa using hk]
  rfl
theorem ref07_two_alt [Dfr] (A B : List Tc) (h : A.length + B.length ≤ 1000000000) : ref07_two 6 A B = some (A ++ B) := by
  rw [ref07_two_eq]
  simp only [List.nil_append, room (show (0 + A.length) * 32 ≤ 140737488355328 by omega), room (show (A.length + B.length) * 32 ≤ 140737488355328 by omega)]
  rfl
theorem ref07_block_l0s [Dfr] (Q : List Qc) (hQ : Q.length ≤ 1000000000) (hs : ∀ x ∈ Q, x.1.1.length + x.2.1.length ≤ 19) : ∀ (r : List Qc) (i : Nat) (acc : List Tc), Q.drop i = r → acc.length ≤ i → ref07_block_l0 Q acc (i : Int) = some (0, acc ++ r.flatMap blkF)
  | [], i, acc, h, ha => by
    obtain ⟨h1, h2⟩ := drop_nil h
    rw [ref07_block_l0_eq]
    simp only [h2, cond_false, List.flatMap_nil, List.append_nil]
  | x :: r, i, acc, h, ha => by
    obtain ⟨h1, h2, h3, h4, h5, h6⟩ := drop_cons h
    have hm := hs x (List.mem_of_mem_drop (by rw [h]; exact List.mem_cons_self ..))
    have hw := w_succ (show i < 9223372036854775807 by omega)
    rw [ref07_block_l0_eq]
    simp only [h2, h3, h4, cond_true, ref07_behind_s x.1 x.2 hm, Option.bind_some, room (show (acc.length + 1) * 32 ≤ 140737488355328 by omega), hw, List.flatMap_cons]
    unfold blkF
    by_cases e1 : x.1.2 = 1
    · have e2 : (x.1.2 == 2) = false := by rw [e1]; rfl
      rw [show (x.1.2 == 1) = true by simp [e1], e2, if_pos e1, cond_true, cond_false, ref07_block_l0s Q hQ hs r (i + 1) _ h5 (by simp; omega), List.append_assoc]
      rfl
    · rw [show (x.1.2 == 1) = false by simpa using e1, if_neg e1, cond_false]
      by_cases e2 : x.1.2 = 2
      · rw [show (x.1.2 == 2) = true by simp [e2], if_pos e2, cond_true, ref07_block_l0s Q hQ hs r (i + 1) _ h5 (by simp; omega), List.append_assoc]
        rfl
      · rw [show (x.1.2 == 2) = false by simpa using e2, if_neg e2, cond_false, ref07_block_l0s Q hQ hs r (i + 1) _ h5 (by omega)]
        rfl
theorem ref07_block_s [Dfr] (Q : List Qc) (hQ : Q.length ≤ 1000000000) (hs : ∀ x ∈ Q, x.1.1.length + x.2.1.length ≤ 19) : ref07_block Q = some (Q.flatMap blkF) := by
  have e := ref07_block_l0s Q hQ hs Q 0 [] rfl (by simp)
  rw [Int.natCast_zero] at e
  rw [ref07_block_eq, e]
  rfl
/-- The pairs of one that has begun, as the reference lays them. -/
def goR (A B : List Tc) : List Qc := A.flatMap fun x => if x.2 ≠ 1 then [(x, ([], 1))] else B.map fun y => (x, y)
theorem mem_goR [Dfr] {A B : List Tc} (hB : ∃ y, y ∈ B) {z : Qc} : z ∈ goR A B ↔ z ∈ cross1 A B goF := by
  unfold goR
  rw [List.mem_flatMap, mem_cross1]
  obtain ⟨y0, hy0⟩ := hB
  constructor
  · rintro ⟨x, hx, hz⟩
    by_cases h1 : x.2 = 1
    · rw [if_neg (by simpa using h1)] at hz
      obtain ⟨y, hy, rfl⟩ := List.mem_map.1 hz
      exact ⟨x, hx, y, hy, by unfold goF; rw [if_pos h1]⟩
    · rw [if_pos h1] at hz
      exact ⟨x, hx, y0, hy0, by unfold goF; rw [if_neg h1]; exact List.mem_singleton.1 hz⟩
  · rintro ⟨x, hx, y, hy, rfl⟩
    refine ⟨x, hx, ?_⟩
    unfold goF
    by_cases h1 : x.2 = 1
    · rw [if_neg (by simpa using h1), if_pos h1]
      exact List.mem_map.2 ⟨y, hy, rfl⟩
    · rw [if_pos h1, if_neg h1]
      exact List.mem_singleton.2 rfl
theorem len_goR [Dfr] {A B : List Tc} (hB : ∃ y, y ∈ B) : (goR A B).length ≤ A.length * B.length := by
  obtain ⟨y0, hy0⟩ := hB
  have := List.length_pos_of_mem hy0
  refine len_flatMap fun a ha => ?_
  split
  · simp; omega
  · rw [List.length_map]; exact Nat.le_refl _
theorem ref07_going_l2s [Dfr] (A B : List Tc) (hA : A.length ≤ 1000000000) (hB : B.length ≤ 1000000000) (i : Nat) (a : Tc) (ra : List Tc) (hi : A.drop i = a :: ra) : ∀ (r : List Tc) (j : Nat) (acc : List Qc), B.drop j = r → acc.length + r.length ≤ 1000000000 →
    ref07_going_l2 A B acc (i : Int) (j : Int) = some (0, (A, B, acc ++ r.map fun y => (a, y), (i : Int)))
  | [], j, acc, h, hl => by
    obtain ⟨h1, h2⟩ := drop_nil h
    rw [ref07_going_l2_eq]
    simp only [h2, cond_false, List.map_nil, List.append_nil]
  | b :: r, j, acc, h, hl => by
    obtain ⟨g1, g2, g3, g4, g5, g6⟩ := drop_cons hi
    obtain ⟨h1, h2, h3, h4, h5, h6⟩ := drop_cons h
    simp only [List.length_cons] at hl
    rw [ref07_going_l2_eq]
    simp only [h2, h3, h4, g3, g4, cond_true, w_succ (show j < 9223372036854775807 by omega), room (show (acc.length + 1) * 64 ≤ 140737488355328 by omega)]
    rw [ref07_going_l2s A B hA hB i a ra hi r (j + 1) (acc ++ [(a, b)]) h5 (by simp; omega), List.append_assoc]
    rfl
theorem ref07_going_l0s [Dfr] (A B : List Tc) (hA : A.length ≤ 1000000000) (hB : B.length ≤ 1000000000) : ∀ (r : List Tc) (i : Nat) (acc : List Qc), A.drop i = r → acc.length + (goR r B).length ≤ 1000000000 →
    ref07_going_l0 A B acc (i : Int) = some (0, acc ++ goR r B)
  | [], i, acc, h, hl => by
    obtain ⟨h1, h2⟩ := drop_nil h
    rw [ref07_going_l0_eq]
    simp only [h2, cond_false, goR, List.flatMap_nil, List.append_nil]
  | a :: r, i, acc, h, hl => by
    obtain ⟨h1, h2, h3, h4, h5, h6⟩ := drop_cons h
    have hc : goR (a :: r) B = (if a.2 ≠ 1 then [(a, ([], 1))] else B.map fun y => (a, y)) ++ goR r B := rfl
    rw [hc, List.length_append] at hl
    rw [ref07_going_l0_eq, hc]
    simp only [h2, h3, h4, cond_true, ref07_Ends_eq, Option.bind_some, w_succ (show i < 9223372036854775807 by omega)]
    by_cases e1 : a.2 = 1
    · rw [if_neg (by simpa using e1), List.length_map] at hl
      have e := ref07_going_l2s A B hA hB i a r h B 0 acc rfl (by omega)
      rw [Int.natCast_zero] at e
      rw [show (a.2 != 1) = false by simp [e1], if_neg (by simpa using e1)]
      simp only [cond_false, e, Option.bind_some, w_succ (show i < 9223372036854775807 by omega)]
      rw [ref07_going_l0s A B hA hB r (i + 1) _ h5 (by rw [List.length_append, List.length_map]; omega), List.append_assoc]
    · rw [if_pos e1, List.length_singleton] at hl
      rw [show (a.2 != 1) = true by simpa using e1, if_pos e1]
      simp only [cond_true, room (show (acc.length + 1) * 64 ≤ 140737488355328 by omega)]
      rw [ref07_going_l0s A B hA hB r (i + 1) _ h5 (by rw [List.length_append, List.length_singleton]; omega), List.append_assoc]
theorem ref07_going_s [Dfr] (A B : List Tc) (hA : A.length ≤ 1000000000) (hB : B.length ≤ 1000000000) (hl : (goR A B).length ≤ 1000000000) : ref07_going A B = some (goR A B) := by
  have e := ref07_going_l0s A B hA hB A 0 [] rfl (by simpa using hl)
  rw [Int.natCast_zero] at e
  rw [ref07_going_eq, e]
  rfl
/-- The pairs of one row behind another one, as the reference lays them. -/
def seqR (A B : List Qc) : List Qc := A.flatMap fun a => if a.1.2 ≠ 1 then [a] else B.map fun b => (thenT a.1 b.1, thenT b.2 a.2)
theorem mem_seqR [Dfr] {A B : List Qc} (hB : ∃ y, y ∈ B) {z : Qc} : z ∈ seqR A B ↔ z ∈ cross1 A B seqF := by
  unfold seqR
  rw [List.mem_flatMap, mem_cross1]
  obtain ⟨y0, hy0⟩ := hB
  constructor
  · rintro ⟨x, hx, hz⟩
    by_cases h1 : x.1.2 = 1
    · rw [if_neg (by simpa using h1)] at hz
      obtain ⟨y, hy, rfl⟩ := List.mem_map.1 hz
      exact ⟨x, hx, y, hy, by unfold seqF; rw [if_pos h1]⟩
    · rw [if_pos h1] at hz
      exact ⟨x, hx, y0, hy0, by unfold seqF; rw [if_neg h1]; exact List.mem_singleton.1 hz⟩
  · rintro ⟨x, hx, y, hy, rfl⟩
    refine ⟨x, hx, ?_⟩
    unfold seqF
    by_cases h1 : x.1.2 = 1
    · rw [if_neg (by simpa using h1), if_pos h1]
      exact List.mem_map.2 ⟨y, hy, rfl⟩
    · rw [if_pos h1, if_neg h1]
      exact List.mem_singleton.2 rfl
theorem len_seqR [Dfr] {A B : List Qc} (hB : ∃ y, y ∈ B) : (seqR A B).length ≤ A.length * B.length := by
  obtain ⟨y0, hy0⟩ := hB
  have := List.length_pos_of_mem hy0
  refine len_flatMap fun a ha => ?_
  split
  · simp; omega
  · rw [List.length_map]; exact Nat.le_refl _
theorem ref07_seq_l2s [Dfr] (A B : List Qc) (hA : A.length ≤ 1000000000) (hB : B.length ≤ 1000000000) (i : Nat) (a : Qc) (ra : List Qc) (hi : A.drop i = a :: ra) (hs : ∀ b ∈ B, a.1.1.length + b.1.1.length ≤ 19 ∧ a.2.1.length + b.2.1.length ≤ 19) : ∀ (r : List Qc) (j : Nat) (acc : List Qc), B.drop j = r → acc.length + r.length ≤ 1000000000 →
    ref07_seq_l2 A B acc (i : Int) (j : Int) = some (0, (A, B, acc ++ r.map fun b => (thenT a.1 b.1, thenT b.2 a.2), (i : Int)))
  | [], j, acc, h, hl => by
    obtain ⟨h1, h2⟩ := drop_nil h
    rw [ref07_seq_l2_eq]
    simp only [h2, cond_false, List.map_nil, List.append_nil]
  | b :: r, j, acc, h, hl => by
    obtain ⟨g1, g2, g3, g4, g5, g6⟩ := drop_cons hi
    obtain ⟨h1, h2, h3, h4, h5, h6⟩ := drop_cons h
    have hm := hs b (List.mem_of_mem_drop (by rw [h]; exact List.mem_cons_self ..))
    simp only [List.length_cons] at hl
    rw [ref07_seq_l2_eq]
    simp only [h2, h3, h4, g3, g4, cond_true, ref02_Then_s a.1 b.1 (by omega), ref02_Then_s b.2 a.2 (by omega), Option.bind_some, w_succ (show j < 9223372036854775807 by omega), room (show (acc.length + 1) * 64 ≤ 140737488355328 by omega)]
    rw [ref07_seq_l2s A B hA hB i a ra hi hs r (j + 1) _ h5 (by simp; omega), List.append_assoc]
    rfl
theorem ref07_seq_l0s [Dfr] (A B : List Qc) (hA : A.length ≤ 1000000000) (hB : B.length ≤ 1000000000) (hs : ∀ a ∈ A, ∀ b ∈ B, a.1.1.length + b.1.1.length ≤ 19 ∧ a.2.1.length + b.2.1.length ≤ 19) : ∀ (r : List Qc) (i : Nat) (acc : List Qc), A.drop i = r → acc.length + (seqR r B).length ≤ 1000000000 →
    ref07_seq_l0 A B acc (i : Int) = some (0, acc ++ seqR r B)
  | [], i, acc, h, hl => by
    obtain ⟨h1, h2⟩ := drop_nil h
    rw [ref07_seq_l0_eq]
    simp only [h2, cond_false, seqR, List.flatMap_nil, List.append_nil]
  | a :: r, i, acc, h, hl => by
    obtain ⟨h1, h2, h3, h4, h5, h6⟩ := drop_cons h
    have hm : a ∈ A := List.mem_of_mem_drop (by rw [h]; exact List.mem_cons_self ..)
    have hc : seqR (a :: r) B = (if a.1.2 ≠ 1 then [a] else B.map fun b => (thenT a.1 b.1, thenT b.2 a.2)) ++ seqR r B := rfl
    rw [hc, List.length_append] at hl
    rw [ref07_seq_l0_eq, hc]
    simp only [h2, h3, h4, cond_true, w_succ (show i < 9223372036854775807 by omega)]
    by_cases e1 : a.1.2 = 1
    · rw [if_neg (by simpa using e1), List.length_map] at hl
      have e := ref07_seq_l2s A B hA hB i a r h (hs a hm) B 0 acc rfl (by omega)
      rw [Int.natCast_zero] at e
      rw [show (a.1.2 != 1) = false by simp [e1], if_neg (by simpa using e1)]
      simp only [cond_false, e, Option.bind_some, w_succ (show i < 9223372036854775807 by omega)]
      rw [ref07_seq_l0s A B hA hB hs r (i + 1) _ h5 (by rw [List.length_append, List.length_map]; omega), List.append_assoc]
    · rw [if_pos e1, List.length_singleton] at hl
      rw [show (a.1.2 != 1) = true by simpa using e1, if_pos e1]
      simp only [cond_true, room (show (acc.length + 1) * 64 ≤ 140737488355328 by omega)]
      rw [ref07_seq_l0s A B hA hB hs r (i + 1) _ h5 (by rw [List.length_append, List.length_singleton]; omega), List.append_assoc]
theorem ref07_seq_s [Dfr] (A B : List Qc) (hA : A.length ≤ 1000000000) (hB : B.length ≤ 1000000000) (hs : ∀ a ∈ A, ∀ b ∈ B, a.1.1.length + b.1.1.length ≤ 19 ∧ a.2.1.length + b.2.1.length ≤ 19) (hl : (seqR A B).length ≤ 1000000000) : ref07_seq A B = some (seqR A B) := by
  have e := ref07_seq_l0s A B hA hB hs A 0 [] rfl (by simpa using hl)
  rw [Int.natCast_zero] at e
  rw [ref07_seq_eq, e]
  rfl
/-! ### two rows of pairs, side by side -/
theorem ref07_par_l6s [Dfr] (A B acc0 : List Qc) (i j : Int) (X Y : List Tc) (hX : X.length ≤ 1000000000) (hY : Y.length ≤ 1000000000) (u : Nat) (x : Tc) (rx : List Tc) (hu : X.drop u = x :: rx) : ∀ (r : List Tc) (v : Nat) (acc : List Qc), Y.drop v = r → acc.length + r.length ≤ 1000000000 →
    ref07_par_l6 A B acc i j X Y (u : Int) (v : Int) = some (0, (A, B, acc ++ r.map fun y => (x, y), i, j, X, Y, (u : Int)))
  | [], v, acc, h, hl => by
    obtain ⟨h1, h2⟩ := drop_nil h
    rw [ref07_par_l6_eq]
    simp only [h2, cond_false, List.map_nil, List.append_nil]
  | y :: r, v, acc, h, hl => by
    obtain ⟨g1, g2, g3, g4, g5, g6⟩ := drop_cons hu
    obtain ⟨h1, h2, h3, h4, h5, h6⟩ := drop_cons h
    simp only [List.length_cons] at hl
    rw [ref07_par_l6_eq]
    simp only [h2, h3, h4, g3, g4, cond_true, w_succ (show v < 9223372036854775807 by omega), room (show (acc.length + 1) * 64 ≤ 140737488355328 by omega)]
    rw [ref07_par_l6s A B acc0 i j X Y hX hY u x rx hu r (v + 1) _ h5 (by simp; omega), List.append_assoc]
    rfl
theorem ref07_par_l4s [Dfr] (A B : List Qc) (i j : Int) (X Y : List Tc) (hX : X.length ≤ 1000000000) (hY : Y.length ≤ 1000000000) : ∀ (r : List Tc) (u : Nat) (acc : List Qc), X.drop u = r → acc.length + (r.flatMap fun x => Y.map fun y => (x, y)).length ≤ 1000000000 →
    ref07_par_l4 A B acc i j X Y (u : Int) = some (0, (A, B, acc ++ (r.flatMap fun x => Y.map fun y => (x, y)), i, j))
  | [], u, acc, h, hl => by
    obtain ⟨h1, h2⟩ := drop_nil h
    rw [ref07_par_l4_eq]
    simp only [h2, cond_false, List.flatMap_nil, List.append_nil]
  | x :: r, u, acc, h, hl => by
    obtain ⟨h1, h2, h3, h4, h5, h6⟩ := drop_cons h
    simp only [List.flatMap_cons, List.length_append, List.length_map] at hl
    have e := ref07_par_l6s A B [] i j X Y hX hY u x r h Y 0 acc rfl (by omega)
    rw [Int.natCast_zero] at e
    rw [ref07_par_l4_eq]
    simp only [h2, cond_true, e, Option.bind_some, w_succ (show u < 9223372036854775807 by omega)]
    rw [ref07_par_l4s A B i j X Y hX hY r (u + 1) _ h5 (by rw [List.length_append, List.length_map]; omega), List.flatMap_cons, List.append_assoc]
theorem ref07_par_l2s [Dfr] (A B : List Qc) (hA : A.length ≤ 1000000000) (hB : B.length ≤ 1000000000) (i : Nat) (a : Qc) (ra : List Qc) (hi : A.drop i = a :: ra) (hs : ∀ b ∈ B, a.1.1.length + b.1.1.length ≤ 19 ∧ a.2.1.length + b.2.1.length ≤ 19) : ∀ (r : List Qc) (j : Nat) (acc : List Qc), B.drop j = r → acc.length + (r.flatMap (parF a)).length ≤ 1000000000 →
    ref07_par_l2 A B acc (i : Int) (j : Int) = some (0, (A, B, acc ++ r.flatMap (parF a), (i : Int)))
  | [], j, acc, h, hl => by
    obtain ⟨h1, h2⟩ := drop_nil h
    rw [ref07_par_l2_eq]
    simp only [h2, cond_false, List.flatMap_nil, List.append_nil]
  | b :: r, j, acc, h, hl => by
    obtain ⟨g1, g2, g3, g4, g5, g6⟩ := drop_cons hi
    obtain ⟨h1, h2, h3, h4, h5, h6⟩ := drop_cons h
    have hm := hs b (List.mem_of_mem_drop (by rw [h]; exact List.mem_cons_self ..))
    simp only [List.flatMap_cons, List.length_append] at hl
    have hlen : ∀ (e : Int) (p q : List ByteArray), p.length + q.length ≤ 19 → (parE e p q).length ≤ 1000000000 := fun e p q h => by
      have := length_mixS_le (a := p) (b := q) h
      unfold parE
      rw [List.length_map]; omega
    have e := ref07_par_l4s A B (i : Int) (j : Int) (parE (bs a.1.2 b.1.2) a.1.1 b.1.1) (parE (bs a.2.2 b.2.2) a.2.1 b.2.1) (hlen _ _ _ hm.1) (hlen _ _ _ hm.2) (parE (bs a.1.2 b.1.2) a.1.1 b.1.1) 0 acc rfl (by show acc.length + (parF a b).length ≤ _; omega)
    rw [Int.natCast_zero] at e
    rw [ref07_par_l2_eq]
    simp only [h2, h3, h4, g3, g4, cond_true, ref02_Par_s a.1 b.1 hm.1, ref02_Par_s a.2 b.2 hm.2, e, Option.bind_some, w_succ (show j < 9223372036854775807 by omega)]
    have ef : ((parE (bs a.1.2 b.1.2) a.1.1 b.1.1).flatMap fun x => (parE (bs a.2.2 b.2.2) a.2.1 b.2.1).map fun y => (x, y)) = parF a b := rfl
    rw [ef, ref07_par_l2s A B hA hB i a ra hi hs r (j + 1) _ h5 (by rw [List.length_append]; omega), List.flatMap_cons, List.append_assoc]
theorem ref07_par_l0s [Dfr] (A B : List Qc) (hA : A.length ≤ 1000000000) (hB : B.length ≤ 1000000000) (hs : ∀ a ∈ A, ∀ b ∈ B, a.1.1.length + b.1.1.length ≤ 19 ∧ a.2.1.length + b.2.1.length ≤ 19) : ∀ (r : List Qc) (i : Nat) (acc : List Qc), A.drop i = r → acc.length + (crossL r B parF).length ≤ 1000000000 →
    ref07_par_l0 A B acc (i : Int) = some (0, acc ++ crossL r B parF)
  | [], i, acc, h, hl => by
    obtain ⟨h1, h2⟩ := drop_nil h
    rw [ref07_par_l0_eq]
    simp only [h2, cond_false, crossL, List.flatMap_nil, List.append_nil]
  | a :: r, i, acc, h, hl => by
    obtain ⟨h1, h2, h3, h4, h5, h6⟩ := drop_cons h
    have hm : a ∈ A := List.mem_of_mem_drop (by rw [h]; exact List.mem_cons_self ..)
    have hc : crossL (a :: r) B parF = B.flatMap (parF a) ++ crossL r B parF := rfl
    rw [hc, List.length_append] at hl
    have e := ref07_par_l2s A B hA hB i a r h (hs a hm) B 0 acc rfl (by omega)
    rw [Int.natCast_zero] at e
    rw [ref07_par_l0_eq]
    simp only [h2, cond_true, e, Option.bind_some, w_succ (show i < 9223372036854775807 by omega)]
    rw [ref07_par_l0s A B hA hB hs r (i + 1) _ h5 (by rw [List.length_append]; omega), hc, List.append_assoc]
theorem ref07_par_s [Dfr] (A B : List Qc) (hA : A.length ≤ 1000000000) (hB : B.length ≤ 1000000000) (hs : ∀ a ∈ A, ∀ b ∈ B, a.1.1.length + b.1.1.length ≤ 19 ∧ a.2.1.length + b.2.1.length ≤ 19) (hl : (crossL A B parF).length ≤ 1000000000) : ref07_par A B = some (crossL A B parF) := by
  have e := ref07_par_l0s A B hA hB hs A 0 [] rfl (by simpa using hl)
  rw [Int.natCast_zero] at e
  rw [ref07_par_eq, e]
  rfl
/-! ### a row with what takes back -/
theorem ref07_stack_l2s [Dfr] (A : List Qc) (C : List Tc) (hA : A.length ≤ 1000000000) (hC : C.length ≤ 1000000000) (i : Nat) (a : Qc) (ra : List Qc) (hi : A.drop i = a :: ra) (hs : ∀ c ∈ C, a.2.1.length + c.1.length ≤ 19) : ∀ (r : List Tc) (j : Nat) (acc : List Qc), C.drop j = r → acc.length + r.length ≤ 1000000000 →
    ref07_stack_l2 A C acc (i : Int) (j : Int) = some (0, (A, C, acc ++ r.flatMap (fun c => [(a.1, thenT a.2 c)]), (i : Int)))
  | [], j, acc, h, hl => by
    obtain ⟨h1, h2⟩ := drop_nil h
    rw [ref07_stack_l2_eq]
    simp only [h2, cond_false, List.flatMap_nil, List.append_nil]
  | b :: r, j, acc, h, hl => by
    obtain ⟨g1, g2, g3, g4, g5, g6⟩ := drop_cons hi
    obtain ⟨h1, h2, h3, h4, h5, h6⟩ := drop_cons h
    have hm := hs b (List.mem_of_mem_drop (by rw [h]; exact List.mem_cons_self ..))
    simp only [List.length_cons] at hl
    rw [ref07_stack_l2_eq]
    simp only [h2, h3, h4, g3, g4, cond_true, ref02_Then_s a.2 b (by omega), Option.bind_some, w_succ (show j < 9223372036854775807 by omega), room (show (acc.length + 1) * 64 ≤ 140737488355328 by omega)]
    rw [ref07_stack_l2s A C hA hC i a ra hi hs r (j + 1) _ h5 (by simp; omega), List.append_assoc]
    rfl
theorem ref07_stack_l0s [Dfr] (A : List Qc) (C : List Tc) (hA : A.length ≤ 1000000000) (hC : C.length ≤ 1000000000) (hs : ∀ a ∈ A, ∀ c ∈ C, a.2.1.length + c.1.length ≤ 19) : ∀ (r : List Qc) (i : Nat) (acc : List Qc), A.drop i = r → acc.length + r.length * C.length ≤ 1000000000 →
    ref07_stack_l0 A C acc (i : Int) = some (0, acc ++ cross1 r C fun x q => (x.1, thenT x.2 q))
  | [], i, acc, h, hl => by
    obtain ⟨h1, h2⟩ := drop_nil h
    rw [ref07_stack_l0_eq]
    simp only [h2, cond_false, cross1, crossL, List.flatMap_nil, List.append_nil]
  | a :: r, i, acc, h, hl => by
    obtain ⟨h1, h2, h3, h4, h5, h6⟩ := drop_cons h
    have hm : a ∈ A := List.mem_of_mem_drop (by rw [h]; exact List.mem_cons_self ..)
    have hc : cross1 (a :: r) C (fun x q => (x.1, thenT x.2 q)) = C.flatMap (fun c => [(a.1, thenT a.2 c)]) ++ cross1 r C fun x q => (x.1, thenT x.2 q) := rfl
    have hcl : (C.flatMap (fun c => [(a.1, thenT a.2 c)])).length ≤ C.length := by
      have := len_flatMap (f := fun c : Tc => [(a.1, thenT a.2 c)]) (k := 1) (A := C) fun _ _ => by simp
      omega
    rw [List.length_cons, Nat.add_mul, Nat.one_mul] at hl
    have e := ref07_stack_l2s A C hA hC i a r h (hs a hm) C 0 acc rfl (by omega)
    rw [Int.natCast_zero] at e
    rw [ref07_stack_l0_eq]
    simp only [h2, cond_true, e, Option.bind_some, w_succ (show i < 9223372036854775807 by omega)]
    rw [ref07_stack_l0s A C hA hC hs r (i + 1) _ h5 (by rw [List.length_append]; omega), hc, List.append_assoc]
theorem ref07_stack_s [Dfr] (A : List Qc) (C : List Tc) (hA : A.length ≤ 1000000000) (hC : C.length ≤ 1000000000) (hs : ∀ a ∈ A, ∀ c ∈ C, a.2.1.length + c.1.length ≤ 19) (hl : A.length * C.length ≤ 1000000000) : ref07_stack A C = some (cross1 A C fun x q => (x.1, thenT x.2 q)) := by
  have e := ref07_stack_l0s A C hA hC hs A 0 [] rfl (by simpa using hl)
  rw [Int.natCast_zero] at e
  rw [ref07_stack_eq, e]
  rfl
theorem ref07_end_l0s [Dfr] (s : Int) (C : List Tc) (hC : C.length ≤ 1000000000) : ∀ (r : List Tc) (i : Nat) (acc : List Qc), C.drop i = r → acc.length ≤ i → ref07_end_l0 s C acc (i : Int) = some (0, acc ++ r.map fun q => (([], s), q))
  | [], i, acc, h, ha => by
    obtain ⟨h1, h2⟩ := drop_nil h
    rw [ref07_end_l0_eq]
    simp only [h2, cond_false, List.map_nil, List.append_nil]
  | x :: r, i, acc, h, ha => by
    obtain ⟨h1, h2, h3, h4, h5, h6⟩ := drop_cons h
    rw [ref07_end_l0_eq]
    simp only [h2, h3, h4, cond_true, ref07_Ends_eq, Option.bind_some, room (show (acc.length + 1) * 64 ≤ 140737488355328 by omega), w_succ (show i < 9223372036854775807 by omega), List.map_cons]
    rw [ref07_end_l0s s C hC r (i + 1) _ h5 (by simp; omega), List.append_assoc]
    rfl
theorem ref07_end_s [Dfr] (s : Int) (C : List Tc) (hC : C.length ≤ 1000000000) : ref07_end s C = some (C.map fun q => (([], s), q)) := by
  have e := ref07_end_l0s s C hC C 0 [] rfl (by simp)
  rw [Int.natCast_zero] at e
  rw [ref07_end_eq, e]
  rfl
end Go.Proofs.YtabhofdbgmdjkaaGreatDoor.Sv
