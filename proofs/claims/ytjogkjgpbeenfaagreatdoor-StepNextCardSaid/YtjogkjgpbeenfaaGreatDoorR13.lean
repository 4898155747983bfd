/- What the reference's functions of layer 13 compute: in plain words. -/
import Derived.Test.YtjogkjgpbeenfaaGreatDoorL13b
import Derived.Test.YtjogkjgpbeenfaaGreatDoorR12
namespace Go.Proofs.YtjogkjgpbeenfaaGreatDoor.Sv
open Go Go.Sv Go.Rd
set_option linter.unusedVariables false
set_option linter.unusedSimpArgs false
theorem ref13_made_s [Dfr] (l : List Nd) (how : Int) (hl : l.length ≤ 500000) (h0 : l ≠ []) (h2 : how = 2 ∨ how = 3 → (kidsR l).length = 2) (h10 : (ix l 0).1 = 10 → (kidsR l).length = 2 ∧ (how = 4 ∨ how = 5)) : ref13_made l how = some (madeR l how) := by
  have hpos : 0 < l.length := List.length_pos_iff.2 h0
  have hix : idxOk 0 l.length = true := idxOk_zero hpos
  rw [ref13_made_eq, ref03_Kids_s l (by omega)]
  unfold madeR
  simp only [Option.bind_some, ref13_leaf_eq]
  by_cases e2 : how = 2
  · subst e2
    have := h2 (.inl rfl)
    rw [show ((2 : Int) == 2) = true from rfl, if_pos rfl, cond_true, this]; rfl
  by_cases e3 : how = 3
  · subst e3
    have := h2 (.inr rfl)
    rw [if_neg e2, if_pos rfl, this]; rfl
  rw [if_neg e2, if_neg e3]
  simp only [show (how == 2) = false by rw [beq_eq_false_iff_ne]; exact e2, show (how == 3) = false by rw [beq_eq_false_iff_ne]; exact e3, cond_false, hix, cond_true]
  have hone : ref03_One (14, ByteArray.empty, 3) [(2, ByteArray.empty, 0)] = some [(14, ByteArray.empty, 3), (2, ByteArray.empty, 0)] := ref03_One_s _ _ (by decide)
  by_cases e10 : (ix l 0).1 = 10
  · obtain ⟨hk, h45⟩ := h10 e10
    obtain ⟨a, b, hab⟩ : ∃ a b, kidsR l = [a, b] := by
      match h : kidsR l, hk with
      | [a, b], _ => exact ⟨a, b, rfl⟩
    have hfl := (kids_flat l).1
    rw [hab] at hfl
    simp only [List.flatten_cons, List.flatten_nil, List.append_nil, List.length_append] at hfl
    rw [show ((ix l 0).1 == 10) = true by rw [e10]; rfl, if_pos e10, if_pos e10, hab]
    rcases h45 with rfl | rfl
    · rw [if_neg (by decide)]
      have : ref03_Two (12, ByteArray.empty, 0) (ix [a, b] 0) (ix [a, b] 1) = some ((12, ByteArray.empty, 0) :: (a ++ b)) := ref03_Two_s _ _ _ (by show a.length ≤ _; omega) (by show b.length ≤ _; omega)
      rw [show ((4 : Int) == 4) = true from rfl]
      simp only [cond_true, show idxOk 0 [a, b].length = true from rfl, show idxOk 1 [a, b].length = true from rfl, this, Option.bind_some]
      simp
    · rw [if_pos rfl, show ((5 : Int) == 4) = false from rfl, show ((5 : Int) == 5) = true from rfl]
      simp only [cond_true, cond_false, hone, Option.bind_some]
  · rw [show ((ix l 0).1 == 10) = false by rw [beq_eq_false_iff_ne]; exact e10, if_neg e10, if_neg e10]
    by_cases e5 : how = 5
    · subst e5
      rw [if_pos rfl]; rfl
    · rw [if_neg e5, show (how == 5) = false by rw [beq_eq_false_iff_ne]; exact e5]
      cases (how == 4) <;> rfl
theorem made_names [Dfr] {l : List Nd} {how : Int} (hn : ∀ n ∈ l, n.2.1.size ≤ 9223372036854775807) (h2 : how = 2 ∨ how = 3 → (kidsR l).length = 2) : ∀ n ∈ madeR l how, n.2.1.size ≤ 9223372036854775807 := by
  have hk : ∀ n ∈ (kidsR l).flatten, n ∈ l := fun n h => by
    unfold kidsR at h
    cases hp : P l with
    | none => rw [hp] at h; cases h
    | some q =>
      obtain ⟨t, r⟩ := q
      rw [hp] at h
      rw [(P_iff.1 hp).2]
      refine List.mem_append_left _ ?_
      cases t with
      | n0 n' => simp [T.kids] at h
      | n1 n' a => simp [T.kids, T.row] at h ⊢; exact .inr h
      | n2 n' a b => simp [T.kids, T.row] at h ⊢; exact .inr h
  have hi : ∀ i : Nat, i < (kidsR l).length → ∀ n ∈ ix (kidsR l) (i : Int), n ∈ l := fun i hi n h => hk n (by
    rw [ix_nat hi] at h
    exact List.mem_flatten.2 ⟨_, List.getElem_mem hi, h⟩)
  intro n h
  unfold madeR at h
  split at h
  · rename_i e
    exact hn n (hi 0 (by rw [h2 (.inl e)]; omega) n h)
  · split at h
    · rename_i e
      exact hn n (hi 1 (by rw [h2 (.inr e)]; omega) n h)
    · split at h
      · split at h
        · rcases List.mem_cons.1 h with h | h
          · rw [h]; decide
          · rw [List.mem_singleton.1 h]; decide
        · rw [List.mem_singleton.1 h]; decide
      · split at h
        · rcases List.mem_cons.1 h with h | h
          · rw [h]; decide
          · exact hn n (hk n h)
        · rw [List.mem_singleton.1 h]; decide
theorem ref13_Next_s [Dfr] [HasOver] [HasWays] [HasPut] (l : List Nd) (m : Mv) (hl : l.length ≤ 400000) (hn : ∀ n ∈ l, n.2.1.size ≤ 9223372036854775807) : ref13_Next l m = some (nextL l m) := by
  rw [ref13_Next_eq, ref12_Is_s l m (by omega) hn, Option.bind_some]
  by_cases hm : m ∈ enL l
  · obtain ⟨z1, _, _, z4⟩ := next_less hm
    obtain ⟨hs, t, k0, ht, hm1, hk0, hkw, hw, hin⟩ := en_at hm
    obtain ⟨k, S, r, h1, h2, h3, h4, h5, h6⟩ := en_sub hm
    obtain rfl : k0 = k := by omega
    have hk2 : m.2 = 2 ∨ m.2 = 3 → (kidsR (l.drop k0)).length = 2 := fun h => by rw [h4]; exact kids_two h3 (h6 h)
    have hx : ix (l.drop k0) 0 = l.getD k0 default := by rw [h4, ← h5]; cases S <;> rfl
    have hxl : ix l (k0 : Int) = l.getD k0 default := by rw [ix_nat hk0, List.getD_eq_getElem?_getD, List.getElem?_eq_getElem hk0]; rfl
    have h10 : (ix (l.drop k0) 0).1 = 10 → (kidsR (l.drop k0)).length = 2 ∧ (m.2 = 4 ∨ m.2 = 5) := fun h => by
      rw [hx] at h
      refine ⟨?_, ?_⟩
      · rw [h4]
        unfold kidsR
        rw [P_row h3]
        rw [← h5] at h
        cases S with
        | n0 n => have := ar0 h3; simp only [T.hd] at h; omega
        | n1 n a => have := ar1 h3.1; simp only [T.hd] at h; omega
        | n2 n a b => rfl
      · unfold mvsAt at hin
        rw [if_neg (by omega), if_neg (by omega)] at hin
        rcases List.mem_cons.1 hin with hin | hin
        · left; rw [hin]
        · split at hin
          · right; simp at hin; rw [hin]
          · cases hin
    have hc : cut l (k0 : Int) (l.length : Int) = l.drop k0 := by rw [cut_nat]; simp
    have hdl : (l.drop k0).length = l.length - k0 := List.length_drop
    have hne : l.drop k0 ≠ [] := fun h => by rw [h] at hdl; simp at hdl; omega
    have hml := made_len (l.drop k0) m.2 hk2
    have hpl := putR_len l (k0 : Int) (madeR (l.drop k0) m.2)
    have hnp : ∀ n ∈ putR l (k0 : Int) (madeR (l.drop k0) m.2), n.2.1.size ≤ 9223372036854775807 := by
      have hmn : ∀ n ∈ madeR (l.drop k0) m.2, n.2.1.size ≤ 9223372036854775807 := fun n hn' => made_names (fun q hq => hn q (List.mem_of_mem_drop hq)) hk2 n hn'
      intro n hn'
      unfold putR at hn'
      split at hn'
      · rcases List.mem_append.1 hn' with h | h
        · rcases List.mem_append.1 h with h | h
          · exact hn n (List.mem_of_mem_take h)
          · exact hmn n h
        · exact hn n (List.mem_of_mem_drop h)
      · exact hn n hn'
    have hset := ref10_Settle_s _ (show (putR l (k0 : Int) (madeR (l.drop k0) m.2)).length ≤ 4611686018427387904 by omega) hnp
    unfold nextL at z4 ⊢
    rw [if_pos hm] at z4 ⊢
    rw [hm1, Int.toNat_natCast] at z4
    rw [decide_eq_true hm, hm1, Int.toNat_natCast]
    simp only [Bool.not_true, cond_false, idxOk_nat hk0, cutOk_nat (show k0 ≤ l.length by omega) (Nat.le_refl _), hc, cond_true, ref13_made_s (l.drop k0) m.2 (by omega) hne hk2 h10, Option.bind_some, ref13_Put_s l (k0 : Int) _ (show l.length ≤ 1000000 by omega) (show (madeR (l.drop k0) m.2).length ≤ 1000000 by omega), hset]
    by_cases e : m.2 = 1
    · rw [show (m.2 == 1) = true by rw [e]; rfl, cond_true, hxl, hx]
    · rw [show (m.2 == 1) = false by rw [beq_eq_false_iff_ne]; exact e, cond_false]
      rw [decide_eq_false e] at z4
      have h7 : (ix (l.drop k0) 0).2.1 = ⟨#[]⟩ := of_decide_eq_true (z4.trans rfl)
      rw [h7]
  · rw [decide_eq_false hm]
    unfold nextL
    rw [if_neg hm]; rfl
end Go.Proofs.YtjogkjgpbeenfaaGreatDoor.Sv
