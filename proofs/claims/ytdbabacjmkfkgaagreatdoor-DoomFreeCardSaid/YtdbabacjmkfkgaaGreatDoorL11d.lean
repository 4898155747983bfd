/- DoomActive, DoomFree: what each tells. -/
import Derived.Test.YtdbabacjmkfkgaaGreatDoorL11
import Derived.Test.YtdbabacjmkfkgaaGreatDoorR11
namespace Go.Proofs.YtdbabacjmkfkgaaGreatDoor.Sv
open Go Go.Sv Go.Rd
set_option linter.unusedVariables false
set_option linter.unusedSimpArgs false
theorem tree_of_set [Dfr] {l : List Nd} (h : setL l) : ∃ m : Tm, l = m.row ∧ m.fine ∧ tree l = some m.t := by
  obtain ⟨m, hm, hf, _⟩ := set_term h
  exact ⟨m, hm, hf, by rw [hm]; exact tree_row (Tm.t_ok m)⟩
theorem part_names [Dfr] {l : List Nd} {t : T} (ht : tree l = some t) (hn : ∀ n ∈ l, n.2.1.size ≤ 9223372036854775807) : ∀ c : T, c.ok → (∃ k, c.row ∈ (besideP (t.path 0 k)).1) → ∀ n ∈ c.row, n.2.1.size ≤ 9223372036854775807 := fun c hc ⟨k, hk⟩ n hnc => by
  obtain ⟨hok, hrow⟩ := tree_iff.1 ht
  have sub : ∀ (t : T) (i : Nat), t.ok → ∀ x ∈ t.path i k, x.2.2.hd.1 = 7 → ∀ n ∈ x.2.2.kid (1 - x.2.1), n ∈ t.row := by
    intro t
    induction t with
    | n0 n => intro i _ x hx; cases hx
    | n1 n a ih =>
      intro i hok x hx h7 m hm
      rw [T.path_n1] at hx
      split at hx
      · cases hx
      · rcases List.mem_cons.1 hx with rfl | hx
        · exfalso
          have h7 : n.1 = 7 := h7
          have := hok.1
          rw [h7] at this
          cases this
        · exact List.mem_cons_of_mem _ (ih (i + 1) hok.2 x hx h7 m hm)
    | n2 n a b iha ihb =>
      intro i hok x hx h7 m hm
      rw [T.path_n2] at hx
      split at hx
      · cases hx
      · split at hx
        · rcases List.mem_cons.1 hx with rfl | hx
          · exact List.mem_cons_of_mem _ (List.mem_append_right _ hm)
          · exact List.mem_cons_of_mem _ (List.mem_append_left _ (iha (i + 1) hok.2.1 x hx h7 m hm))
        · rcases List.mem_cons.1 hx with rfl | hx
          · exact List.mem_cons_of_mem _ (List.mem_append_left _ hm)
          · exact List.mem_cons_of_mem _ (List.mem_append_right _ (ihb (i + 1 + a.size) hok.2.2 x hx h7 m hm))
  obtain ⟨x, hx, h7, e⟩ := bes_mem hk
  rw [e] at hnc
  have := sub t 0 hok x hx h7 n hnc
  rw [← hrow] at this
  exact hn n this
theorem law11_DoomActive_true [Dfr] [HasOver] (l : List Nd) (hl : wfRow l) : law11_DoomActive l = some true := by
  rw [law11_DoomActive_eq, law11_few_s, Option.bind_some]
  by_cases hf : l.length ≤ 100 ∧ dep l ≤ 24
  · rw [decide_eq_true hf]
    simp only [Bool.not_true, cond_false, law11_alive_s, Option.bind_some, cond_true]
    by_cases hs : setL l
    · obtain ⟨m, hm, hfi, ht⟩ := tree_of_set hs
      obtain ⟨hok, hrow⟩ := tree_iff.1 ht
      have hlen : l.length = m.t.size := by rw [hm]; exact T.len_row _
      have hw := wts_len' m.t
      rw [doom_Active_s ht (by omega) hs, ref11_Active_s ht (by omega) hl.names hs]
      simp only [Option.bind_some, ref11_Ints_s _ _ (show ((m.t.wts 0).map fun (k : Nat) => (k : Int)).length ≤ 1000000 by rw [List.length_map]; omega), decide_true, cond_true]
      rw [doom_Doomed_s ht (by omega), ref11_Doomed_eq, ref11_Settled_s l (by omega) hl.names, decide_eq_true (p := l ≠ [] ∧ settleR l = l) hs]
      simp only [Option.bind_some, cond_true, Bool.true_and]
      rw [hrow, ref11_bang_s m.t hok (by omega)]
      simp only [Option.bind_some, beq_self_eq_true]
    · rw [doom_Active_no (by omega) hs, ref11_Active_no (by omega) hl.names hs]
      simp only [Option.bind_some, ref11_Ints_s [] [] (by simp), decide_true, cond_true]
      rw [doom_Doomed_no (by omega) hs, ref11_Doomed_eq, ref11_Settled_s l (by omega) hl.names, decide_eq_false (p := l ≠ [] ∧ settleR l = l) hs]
      rfl
  · rw [decide_eq_false hf]
    simp only [Bool.not_false, cond_true, law11_alive_s, Option.bind_some]
theorem law11_DoomFree_l0s [Dfr] (y0 : List Nd) (y1 : Int) (z : Bool) (xs : List (List Nd)) (hx : xs.length ≤ 1000000) (hs : ∀ x ∈ xs, x.length ≤ 1000000) : ∀ (r : List (List Nd)) (i : Nat), xs.drop i = r → law11_DoomFree_l0 y0 y1 z xs xs (xs.length : Int) (i : Int) = some (0, (y0, y1, z))
  | [], i, h => by
    obtain ⟨h1, h2⟩ := drop_nil h
    rw [law11_DoomFree_l0_eq]
    simp only [h2, cond_false]
  | x :: r, i, h => by
    obtain ⟨h1, h2, h3, h4, h5, h6⟩ := drop_cons h
    have hm := hs x (List.mem_of_mem_drop (by rw [h]; exact List.mem_cons_self ..))
    rw [law11_DoomFree_l0_eq]
    simp only [h2, h3, h4, cond_true, ref03_Same_s x x (by omega), decide_true, Option.bind_some, Bool.not_true, cond_false, w_succ (show i < 9223372036854775807 by omega), law11_DoomFree_l0s y0 y1 z xs hx hs r (i + 1) h5]
theorem law11_DoomFree_true [Dfr] [HasOver] (l : List Nd) (k : Int) (hl : wfRow l) (hk : (Lit.int .i64 k).wf = true) : law11_DoomFree l k = some true := by
  rw [law11_DoomFree_eq, law11_few_s, Option.bind_some]
  by_cases hf : l.length ≤ 100 ∧ dep l ≤ 24
  · rw [decide_eq_true hf]
    simp only [Bool.not_true, cond_false, law11_alive_s, Option.bind_some]
    by_cases hin : ∃ t, tree l = some t ∧ setL l ∧ k ∈ (t.wts 0).map fun (k : Nat) => (k : Int)
    · obtain ⟨t, ht, hs, hkm⟩ := hin
      obtain ⟨j, hj, rfl⟩ := List.mem_map.1 hkm
      obtain ⟨hok, hrow⟩ := tree_iff.1 ht
      have hlen : l.length = t.size := by rw [hrow, T.len_row]
      have h1 := bes_len (t.path 0 j)
      have h2 := T.path_len t 0 j
      have e := law11_DoomFree_l0s l (j : Int) false (besideP (t.path 0 j)).1 (by omega) (fun x hx => by
        obtain ⟨c, c1, c2, rfl⟩ := bes_tree hok hx
        rw [T.len_row]; omega) (besideP (t.path 0 j)).1 0 rfl
      rw [Int.natCast_zero] at e
      rw [doom_Beside_s ht (by omega) hs hj, ref11_Beside_in ht (by omega) hl.names hs hj]
      simp only [Option.bind_some, bne_self_eq_false, cond_false, e, show Nat.beq 0 0 = true from rfl, cond_true]
      rw [doom_Free_in ht (by omega) hs hj, ref11_Free_in ht (by omega) hl.names (part_names ht hl.names) hs hj]
      simp only [Option.bind_some, beq_self_eq_true]
    · have hno : ∀ t, tree l = some t → setL l → k ∉ (t.wts 0).map fun (k : Nat) => (k : Int) := fun t ht hs h => hin ⟨t, ht, hs, h⟩
      obtain ⟨r1, r2⟩ := ref11_out (by omega) hl.names k hno
      have e := law11_DoomFree_l0s l k false [] (by simp) (fun x hx => by cases hx) [] 0 rfl
      rw [Int.natCast_zero] at e
      rw [doom_Beside_out (by omega) k hno, r1]
      simp only [Option.bind_some, bne_self_eq_false, cond_false, e, show Nat.beq 0 0 = true from rfl, cond_true]
      rw [doom_Free_out (by omega) k hno, r2]
      rfl
  · rw [decide_eq_false hf]
    simp only [Bool.not_false, cond_true, law11_alive_s, Option.bind_some]
end Go.Proofs.YtdbabacjmkfkgaaGreatDoor.Sv
