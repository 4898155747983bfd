/- What package step computes: in plain words. -/
import Derived.Test.YtjogkjgpbeenfaaGreatDoorW12
import Derived.Test.YtjogkjgpbeenfaaGreatDoorW03r
import Derived.Test.YtjogkjgpbeenfaaGreatDoorW10
import Derived.Test.YtjogkjgpbeenfaaGreatDoorX19
namespace Go.Proofs.YtjogkjgpbeenfaaGreatDoor.Sv
open Go Go.Sv Go.Rd
set_option linter.unusedVariables false
set_option linter.unusedSimpArgs false
theorem step_Put_s [Dfr] [HasPut] (l : List Nd) (k : Int) (x : List Nd) (hl : l.length ≤ 1000000) (hx : x.length ≤ 1000000) : step_Put l k x = some (putR l k x) := by
  rw [step_Put_eq, HasPut.put, put_spec, if_pos ⟨hl, hx⟩]
theorem putR_len [Dfr] (l : List Nd) (k : Int) (x : List Nd) : (putR l k x).length ≤ l.length + x.length := by
  unfold putR
  split
  · rw [List.length_append, List.length_append, List.length_take, List.length_drop]; omega
  · omega
/-- What stands in a tree's place behind a move. -/
def madeR (l : List Nd) (how : Int) : List Nd :=
  if how = 2 then ix (kidsR l) 0 else if how = 3 then ix (kidsR l) 1 else
  if how = 5 then (if (ix l 0).1 = 10 then [(14, ByteArray.empty, 3), (2, ByteArray.empty, 0)] else [(11, ByteArray.empty, 3)])
  else (if (ix l 0).1 = 10 then (12, ByteArray.empty, 0) :: (kidsR l).flatten else [(11, ByteArray.empty, 1)])
theorem kids_flat [Dfr] (l : List Nd) : (kidsR l).flatten.length ≤ l.length ∧ (kidsR l).length ≤ 2 := by
  unfold kidsR
  cases h : P l with
  | none => simp
  | some q =>
    obtain ⟨t, r⟩ := q
    have e := (P_iff.1 h).2
    rw [e]
    cases t <;> simp [T.kids, T.row] <;> omega
theorem kids_at [Dfr] (l : List Nd) (i : Int) (hi : idxOk i (kidsR l).length = true) : (ix (kidsR l) i).length ≤ l.length := by
  obtain ⟨h0, h1⟩ := idxOk_iff hi
  obtain ⟨j, rfl⟩ := Int.eq_ofNat_of_zero_le h0
  have hj : j < (kidsR l).length := by omega
  have := (kids_flat l).1
  rw [ix_nat hj]
  have h2 : ((kidsR l)[j]).length ≤ (kidsR l).flatten.length := by
    exact (List.sublist_flatten_of_mem (List.getElem_mem hj)).length_le
  omega
theorem step_made_s [Dfr] (l : List Nd) (how : Int) (hl : l.length ≤ 500000) (h0 : l ≠ []) (h2 : how = 2 ∨ how = 3 → (kidsR l).length = 2) : step_made l how = some (madeR l how) := by
  have hpos : 0 < l.length := List.length_pos_iff.2 h0
  obtain ⟨k1, k2⟩ := kids_flat l
  have hm1 : ∀ x y : List Nd, step_made_1 x y l = some (if (ix l 0).1 = 10 then y else x) := fun x y => by
    rw [step_made_1_eq, show idxOk 0 l.length = true from idxOk_zero hpos]
    by_cases e : (ix l 0).1 = 10
    · rw [if_pos e, show ((ix l 0).1 == 10) = true by rw [e]; rfl]; rfl
    · rw [if_neg e, show ((ix l 0).1 == 10) = false by rw [beq_eq_false_iff_ne]; exact e]; rfl
  rw [step_made_eq, row_Kids_s l (by omega)]
  unfold madeR
  simp only [Option.bind_some, step_leaf_eq, hm1]
  have hmk : row_Make (14, ByteArray.empty, 3) [[(2, ByteArray.empty, 0)]] = some [(14, ByteArray.empty, 3), (2, ByteArray.empty, 0)] := row_Make_s _ _ (by decide) (by decide)
  have hmk2 : row_Make (12, ByteArray.empty, 0) (kidsR l) = some ((12, ByteArray.empty, 0) :: (kidsR l).flatten) := row_Make_s _ _ (by rw [sumLen_flatten]; omega) (by omega)
  by_cases e2 : how = 2
  · subst e2
    have := h2 (.inl rfl)
    rw [show ((2 : Int) == 2) = true from rfl, if_pos rfl, cond_true, this]; rfl
  by_cases e3 : how = 3
  · subst e3
    have := h2 (.inr rfl)
    rw [if_neg e2, if_pos rfl, this]; rfl
  by_cases e5 : how = 5
  · subst e5
    rw [if_neg e2, if_neg e3, if_pos rfl]
    simp only [show ((5 : Int) == 2) = false from rfl, show ((5 : Int) == 3) = false from rfl, show ((5 : Int) == 5) = true from rfl, cond_false, cond_true, hmk, Option.bind_some, hm1]
  · rw [if_neg e2, if_neg e3, if_neg e5]
    simp only [show (how == 2) = false by rw [beq_eq_false_iff_ne]; exact e2, show (how == 3) = false by rw [beq_eq_false_iff_ne]; exact e3, show (how == 5) = false by rw [beq_eq_false_iff_ne]; exact e5, cond_false, hmk2, Option.bind_some, hm1]
theorem ref13_Put_s [Dfr] (l : List Nd) (k : Int) (x : List Nd) (hl : l.length ≤ 1000000) (hx : x.length ≤ 1000000) : ref13_Put l k x = some (putR l k x) := by
  rw [ref13_Put_eq]
  unfold putR
  by_cases h0 : k < 0
  · rw [decide_eq_true h0, if_neg (by omega)]; rfl
  · obtain ⟨j, rfl⟩ := Int.eq_ofNat_of_zero_le (a := k) (by omega)
    rw [decide_eq_false h0, cond_false]
    by_cases h1 : j < l.length
    · have hle := sz_len (l.drop j)
      rw [List.length_drop] at hle
      have c1 : cut l (j : Int) (l.length : Int) = l.drop j := by rw [cut_nat]; simp
      have c2 : cut l 0 (j : Int) = l.take j := by rw [show (0 : Int) = ((0 : Nat) : Int) from rfl, cut_nat]; simp
      have hd : (l.drop j).length ≤ 4611686018427387904 := by rw [List.length_drop]; omega
      have ht : (l.take j).length = j := by rw [List.length_take, Nat.min_eq_left (by omega)]
      rw [decide_eq_false (show ¬ (j : Int) ≥ (l.length : Int) by omega), cond_false, cutOk_nat (by omega) (Nat.le_refl _), c1]
      simp only [cond_true, ref03_Size_s _ hd, Option.bind_some, Int.toNat_natCast]
      by_cases h2 : 0 < sz (l.drop j)
      · have hw : w64 ((j : Int) + (sz (l.drop j) : Int)) = ((j + sz (l.drop j) : Nat) : Int) := by rw [w64_id (by omega) (by omega)]; omega
        have c3 : cut l ((j + sz (l.drop j) : Nat) : Int) (l.length : Int) = l.drop (j + sz (l.drop j)) := by rw [cut_nat]; simp
        rw [if_pos ⟨by omega, by omega, h2⟩, show ((sz (l.drop j) : Int) == 0) = false by rw [beq_eq_false_iff_ne]; omega, cond_false, c2, hw, c3]
        rw [show cutOk 0 (j : Int) l.length = true from cutOk_nat (a := 0) (Nat.zero_le _) (by omega), cutOk_nat (by omega) (Nat.le_refl _)]
        simp only [cond_true, List.nil_append, List.length_append, ht, List.length_drop]
        rw [room (show (0 + j) * 32 ≤ 140737488355328 by omega), room (show (j + x.length) * 32 ≤ 140737488355328 by omega), room (show (j + x.length + (l.length - (j + sz (l.drop j)))) * 32 ≤ 140737488355328 by omega)]
        rfl
      · rw [if_neg (fun h => h2 h.2.2), show ((sz (l.drop j) : Int) == 0) = true by rw [show sz (l.drop j) = 0 by omega]; rfl]; rfl
    · rw [decide_eq_true (show (j : Int) ≥ (l.length : Int) by omega), if_neg (by omega)]; rfl
theorem sub_at [Dfr] : ∀ (t : T) (k : Nat), t.ok → k < t.size → ∃ (S : T) (r : List Nd), S.ok ∧ t.row.drop k = S.row ++ r
  | .n0 n, 0, h, _ => ⟨.n0 n, [], h, by simp⟩
  | .n1 n a, 0, h, _ => ⟨.n1 n a, [], h, by simp⟩
  | .n2 n a b, 0, h, _ => ⟨.n2 n a b, [], h, by simp⟩
  | .n0 n, k + 1, h, hk => by simp only [T.size] at hk; omega
  | .n1 n a, k + 1, h, hk => by
    simp only [T.size] at hk
    obtain ⟨S, r, h1, h2⟩ := sub_at a k h.2 (by omega)
    exact ⟨S, r, h1, h2⟩
  | .n2 n a b, k + 1, h, hk => by
    simp only [T.size] at hk
    by_cases hl : k < a.size
    · obtain ⟨S, r, h1, h2⟩ := sub_at a k h.2.1 hl
      refine ⟨S, r ++ b.row, h1, ?_⟩
      show (a.row ++ b.row).drop k = _
      rw [List.drop_append_of_le_length (by rw [T.len_row]; omega), h2, List.append_assoc]
    · obtain ⟨S, r, h1, h2⟩ := sub_at b (k - a.size) h.2.2 (by omega)
      refine ⟨S, r, h1, ?_⟩
      show (a.row ++ b.row).drop k = _
      rw [show k = a.row.length + (k - a.size) by rw [T.len_row]; omega, ← List.drop_drop, List.drop_left, h2]
/-- Where a move may be done. -/
theorem en_at [Dfr] {l : List Nd} {m : Mv} (h : m ∈ enL l) : setL l ∧ ∃ (t : T) (k : Nat), tree l = some t ∧ m.1 = (k : Int) ∧ k < l.length ∧ k ∈ t.wts 0 ∧ waitK (l.getD k default).1 = true ∧ m ∈ mvsAt (l.getD k default).1 (k : Int) (freeT t k) := by
  by_cases hs : setL l
  · obtain ⟨n, _, _, _, _, _, _, ht⟩ := set_tree hs
    rw [enL_in ht hs] at h
    obtain ⟨k, hk, hm⟩ := List.mem_flatMap.1 h
    obtain ⟨h1, h2⟩ := wts_kind ht hk
    exact ⟨hs, n.t, k, ht, mvsAt_in'.1 _ hm, h1, hk, h2, hm⟩
  · rw [enL_no hs] at h; cases h
theorem en_sub [Dfr] {l : List Nd} {m : Mv} (h : m ∈ enL l) : ∃ (k : Nat) (S : T) (r : List Nd), m.1 = (k : Int) ∧ k < l.length ∧ S.ok ∧ l.drop k = S.row ++ r ∧ S.hd = l.getD k default ∧ (m.2 = 2 ∨ m.2 = 3 → S.hd.1 = 6) := by
  obtain ⟨hs, t, k, ht, hm, hk, hkw, hw, hin⟩ := en_at h
  obtain ⟨hok, hrow⟩ := tree_iff.1 ht
  obtain ⟨S, r, h1, h2⟩ := sub_at t k hok (by rw [← T.len_row, ← hrow]; exact hk)
  rw [← hrow] at h2
  have hd : S.hd = l.getD k default := by
    have h3 : l[k]? = some S.hd := by
      rw [← List.head?_drop, h2]
      cases S <;> rfl
    rw [List.getD_eq_getElem?_getD, h3]; rfl
  refine ⟨k, S, r, hm, hk, h1, h2, hd, fun h23 => ?_⟩
  rw [hd]
  unfold mvsAt at hin
  split at hin
  · simp at hin; subst hin; simp at h23
  · split at hin
    · assumption
    · simp only [List.mem_cons] at hin
      rcases hin with hin | hin
      · subst hin; simp at h23
      · split at hin
        · simp at hin; subst hin; simp at h23
        · cases hin
theorem kids_two [Dfr] {S : T} {r : List Nd} (h : S.ok) (h6 : S.hd.1 = 6) : (kidsR (S.row ++ r)).length = 2 := by
  unfold kidsR
  rw [P_row h]
  cases S with
  | n0 n => have := ar0 h; simp only [T.hd] at h6; omega
  | n1 n a => have := ar1 h.1; simp only [T.hd] at h6; omega
  | n2 n a b => rfl
/-- A move done. -/
noncomputable def nextL (l : List Nd) (m : Mv) : List Nd × ByteArray × Int :=
  if m ∈ enL l then (settleR (putR l m.1 (madeR (l.drop m.1.toNat) m.2)), (ix (l.drop m.1.toNat) 0).2.1, 0) else ([], ⟨#[]⟩, 120)
noncomputable def refuL (l : List Nd) (m : Mv) : List Nd × Int :=
  if m ∈ enL l ∧ m.2 = 1 then (settleR (putR l m.1 [(3, ByteArray.empty, 0)]), 0) else ([], 120)
theorem made_len [Dfr] (l : List Nd) (how : Int) (h2 : how = 2 ∨ how = 3 → (kidsR l).length = 2) : (madeR l how).length ≤ l.length + 2 := by
  obtain ⟨k1, k2⟩ := kids_flat l
  unfold madeR
  split
  · rename_i h
    have := kids_at l 0 (by rw [h2 (.inl h)]; rfl)
    omega
  · split
    · rename_i h
      have := kids_at l 1 (by rw [h2 (.inr h)]; rfl)
      omega
    · split
      · split <;> simp
      · split
        · rw [List.length_cons]; omega
        · simp
theorem step_Next_s [Dfr] [HasOver] [HasWays] [HasPut] (l : List Nd) (m : Mv) (hl : l.length ≤ 400000) : step_Next l m = some (nextL l m) := by
  rw [step_Next_eq, move_Is_s l m (by omega), Option.bind_some]
  unfold nextL
  by_cases hm : m ∈ enL l
  · rw [decide_eq_true hm, if_pos hm]
    obtain ⟨k, S, r, h1, h2, h3, h4, h5, h6⟩ := en_sub hm
    have hk2 : m.2 = 2 ∨ m.2 = 3 → (kidsR (l.drop k)).length = 2 := fun h => by rw [h4]; exact kids_two h3 (h6 h)
    have hc : cut l (k : Int) (l.length : Int) = l.drop k := by rw [cut_nat]; simp
    have hdl : (l.drop k).length = l.length - k := List.length_drop
    have hne : l.drop k ≠ [] := fun h => by rw [h] at hdl; simp at hdl; omega
    have hml := made_len (l.drop k) m.2 hk2
    have hpl := putR_len l (k : Int) (madeR (l.drop k) m.2)
    rw [h1, Int.toNat_natCast, cutOk_nat (by omega) (Nat.le_refl _), hc]
    simp only [Bool.not_true, cond_false, cond_true, step_made_s (l.drop k) m.2 (by omega) hne hk2, Option.bind_some, step_Put_s l (k : Int) _ (show l.length ≤ 1000000 by omega) (show (madeR (l.drop k) m.2).length ≤ 1000000 by omega),
      settle_Settle_s _ (show (putR l (k : Int) (madeR (l.drop k) m.2)).length ≤ 4611686018427387904 by omega), show idxOk 0 (l.drop k).length = true from idxOk_zero (by omega)]
  · rw [decide_eq_false hm, if_neg hm]; rfl
theorem step_Refuse_s [Dfr] [HasOver] [HasWays] [HasPut] (l : List Nd) (m : Mv) (hl : l.length ≤ 400000) : step_Refuse l m = some (refuL l m) := by
  rw [step_Refuse_eq, move_Is_s l m (by omega), Option.bind_some]
  unfold refuL
  by_cases hm : m ∈ enL l
  · rw [decide_eq_true hm]
    have hpl := putR_len l m.1 [(3, ByteArray.empty, 0)]
    simp only [List.length_cons, List.length_nil] at hpl
    by_cases h1 : m.2 = 1
    · rw [if_pos ⟨hm, h1⟩, h1]
      simp only [Bool.not_true, cond_false, bne_self_eq_false, step_leaf_eq, Option.bind_some, step_Put_s l m.1 [(3, ByteArray.empty, 0)] (show l.length ≤ 1000000 by omega) (by decide), settle_Settle_s _ (show (putR l m.1 [(3, ByteArray.empty, 0)]).length ≤ 4611686018427387904 by omega)]
    · rw [if_neg (fun h => h1 h.2), show (m.2 != 1) = true by rw [bne_iff_ne]; exact h1]; rfl
  · rw [decide_eq_false hm, if_neg (fun h => hm h.1)]; rfl
end Go.Proofs.YtjogkjgpbeenfaaGreatDoor.Sv
