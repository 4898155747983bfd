/- What the reference's functions of layer 12 compute: in plain words. -/
import Derived.Test.YtjogkjgpbeenfaaGreatDoorW12
import Derived.Test.YtjogkjgpbeenfaaGreatDoorR11
namespace Go.Proofs.YtjogkjgpbeenfaaGreatDoor.Sv
open Go Go.Sv Go.Rd
set_option linter.unusedVariables false
set_option linter.unusedSimpArgs false
theorem ref12_Enabled_l0s [Dfr] (l : List Nd) (xs : List Int) (hx : xs.length ≤ 1000000) (fr : Int → Bool) (hk : ∀ x ∈ xs, idxOk x l.length = true ∧ ref11_Free l x = some (fr x)) : ∀ (r : List Int) (i : Nat) (acc : List Mv), xs.drop i = r → acc.length ≤ 2 * i →
    ref12_Enabled_l0 l acc xs (i : Int) = some (0, acc ++ r.flatMap fun x => mvsAt (ix l x).1 x (fr x))
  | [], i, acc, h, ha => by
    obtain ⟨h1, h2⟩ := drop_nil h
    rw [ref12_Enabled_l0_eq]
    simp only [h2, cond_false]
    simp
  | x :: r, i, acc, h, ha => by
    obtain ⟨h1, h2, h3, h4, h5, h6⟩ := drop_cons h
    obtain ⟨k1, k3⟩ := hk x (List.mem_of_mem_drop (by rw [h]; exact List.mem_cons_self ..))
    have ih := fun acc ha => ref12_Enabled_l0s l xs hx fr hk r (i + 1) acc h5 ha
    rw [ref12_Enabled_l0_eq]
    simp only [h2, h3, h4, cond_true, k1, w_succ (show i < 9223372036854775807 by omega), room (show (acc.length + 1) * 16 ≤ 140737488355328 by omega), room (show (acc.length + 2) * 16 ≤ 140737488355328 by omega), k3, Option.bind_some]
    rw [List.flatMap_cons]
    by_cases e1 : (ix l x).1 = 1
    · rw [show ((ix l x).1 == 1) = true by rw [e1]; rfl, cond_true, ih _ (by simp; omega)]
      simp [mvsAt, e1]
    · rw [show ((ix l x).1 == 1) = false by rw [beq_eq_false_iff_ne]; exact e1, cond_false]
      by_cases e6 : (ix l x).1 = 6
      · rw [show ((ix l x).1 == 6) = true by rw [e6]; rfl, cond_true, ih _ (by simp; omega)]
        simp [mvsAt, e6]
      · rw [show ((ix l x).1 == 6) = false by rw [beq_eq_false_iff_ne]; exact e6, cond_false]
        cases hf : fr x with
        | true =>
          rw [cond_true, room (show ((acc ++ [(x, (4 : Int))]).length + 1) * 16 ≤ 140737488355328 by rw [List.length_append]; simp; omega), cond_true, ih _ (by simp; omega)]
          simp [mvsAt, e1, e6]
        | false =>
          rw [cond_false, ih _ (by simp; omega)]
          simp [mvsAt, e1, e6]
theorem ref12_Enabled_en [Dfr] (l : List Nd) (hl : l.length ≤ 1000000) (hn : ∀ n ∈ l, n.2.1.size ≤ 9223372036854775807) : ref12_Enabled l = some (enL l) := by
  by_cases hs : setL l
  · obtain ⟨m, hm, _, _, _, _, _, ht⟩ := set_tree hs
    obtain ⟨hok, hrow⟩ := tree_iff.1 ht
    have hlen : l.length = m.t.size := by rw [hrow, T.len_row]
    have hw := wts_len' m.t
    have e := ref12_Enabled_l0s l ((m.t.wts 0).map fun (k : Nat) => (k : Int)) (by rw [List.length_map]; omega) (fun x => freeT m.t x.toNat) (fun x hx => by
      obtain ⟨k1, k2, _⟩ := wts_wk ht hx
      obtain ⟨k, hk, rfl⟩ := List.mem_map.1 hx
      exact ⟨k1, ref11_Free_in ht hl hn (part_names ht hn) hs hk⟩) _ 0 [] rfl (by simp)
    rw [Int.natCast_zero] at e
    rw [ref12_Enabled_eq, ref11_Active_s ht hl hn hs, Option.bind_some, e, Option.bind_some, List.nil_append, enL_in ht hs]
    congr 1
    show List.flatMap _ (List.drop 0 _) = _
    unfold mvsT
    rw [List.drop_zero, List.flatMap_map, List.flatMap_def, List.flatMap_def]
    refine congrArg List.flatten (List.map_congr_left fun k hk => ?_)
    rw [(wts_wk ht (List.mem_map.2 ⟨k, hk, rfl⟩)).2.2]
    rfl
  · have e := ref12_Enabled_l0s l [] (by simp) (fun _ => false) (fun x hx => by cases hx) [] 0 [] rfl (by simp)
    rw [Int.natCast_zero] at e
    rw [ref12_Enabled_eq, ref11_Active_no hl hn hs, Option.bind_some, e, enL_no hs]
    rfl
theorem ref12_Is_l0s [Dfr] (xs : List Mv) (x : Mv) (b : Bool) (hx : xs.length ≤ 1000000) : ∀ (r : List Mv) (i : Nat), xs.drop i = r → ref12_Is_l0 x b xs (i : Int) = some (if x ∈ r then (1, true) else (0, b))
  | [], i, h => by
    obtain ⟨h1, h2⟩ := drop_nil h
    rw [ref12_Is_l0_eq]
    simp only [h2, cond_false]
    simp
  | y :: r, i, h => by
    obtain ⟨h1, h2, h3, h4, h5, h6⟩ := drop_cons h
    rw [ref12_Is_l0_eq]
    simp only [h2, h3, h4, cond_true, mv_eq, w_succ (show i < 9223372036854775807 by omega), ref12_Is_l0s xs x b hx r (i + 1) h5]
    by_cases e : y = x
    · subst e; simp
    · rw [decide_eq_false e]
      simp [show ¬ x = y from fun h => e h.symm]
theorem ref12_Is_s [Dfr] (l : List Nd) (m : Mv) (hl : l.length ≤ 1000000) (hn : ∀ n ∈ l, n.2.1.size ≤ 9223372036854775807) : ref12_Is l m = some (decide (m ∈ enL l)) := by
  have h := enL_len l
  have e := ref12_Is_l0s (enL l) m false (by omega) (enL l) 0 rfl
  rw [Int.natCast_zero] at e
  rw [ref12_Is_eq, ref12_Enabled_en l hl hn, Option.bind_some, e, Option.bind_some]
  by_cases h : m ∈ enL l <;> simp [h, Nat.beq]
end Go.Proofs.YtjogkjgpbeenfaaGreatDoor.Sv
