/- What the reference's functions of layer 11 compute: in plain words. -/
import Derived.Test.YtjogkjgpbeenfaaGreatDoorL10
namespace Go.Proofs.YtjogkjgpbeenfaaGreatDoor.Sv
open Go Go.Sv Go.Rd
set_option linter.unusedVariables false
set_option linter.unusedSimpArgs false
theorem ref11_on_s [Dfr] (k : Int) (j : Nat) (hj : j ≤ 1) : ref11_on k (j : Int) = some (decide (j < goK k)) := by
  rw [ref11_on_eq]
  have hz : ((j : Int) == 0) = decide (j < 1) := by
    rcases Nat.le_one_iff_eq_zero_or_eq_one.1 hj with rfl | rfl <;> rfl
  by_cases h1 : k = 5; · rw [h1]; show some _ = _; rw [hz]; rfl
  by_cases h2 : k = 8; · rw [h2]; show some _ = _; rw [hz]; rfl
  by_cases h3 : k = 12; · rw [h3]; show some _ = _; rw [hz]; rfl
  by_cases h4 : k = 13; · rw [h4]; show some _ = _; rw [hz]; rfl
  by_cases h5 : k = 9; · rw [h5]; show some _ = _; rw [hz]; rfl
  by_cases h6 : k = 7
  · rw [h6]
    show some true = some (decide (j < 2))
    rw [decide_eq_true (by omega)]
  have e : goK k = 0 := by unfold goK; rw [if_neg (by omega), if_neg h6]
  rw [e]
  have f : ∀ c : Int, ¬ k = c → (k == c) = false := fun c h => by rw [beq_eq_false_iff_ne]; exact h
  simp only [f 5 h1, f 8 h2, f 12 h3, f 13 h4, f 9 h5, f 7 h6, cond_false]
  rfl
theorem rk0 [Dfr] {n : Nd} (h : (T.n0 n).ok) : ref03_Kids (T.n0 n).row = some [] := by
  rw [ref03_Kids_s _ (by rw [T.len_row]; simp [T.size])]; unfold kidsR; rw [P_row' h]; rfl
theorem rk1 [Dfr] {n : Nd} {a : T} (h : (T.n1 n a).ok) (hl : (T.n1 n a).size ≤ 4611686018427387904) : ref03_Kids (T.n1 n a).row = some [a.row] := by
  rw [ref03_Kids_s _ (by rw [T.len_row]; exact hl)]; unfold kidsR; rw [P_row' h]; rfl
theorem rk2 [Dfr] {n : Nd} {a b : T} (h : (T.n2 n a b).ok) (hl : (T.n2 n a b).size ≤ 4611686018427387904) : ref03_Kids (T.n2 n a b).row = some [a.row, b.row] := by
  rw [ref03_Kids_s _ (by rw [T.len_row]; exact hl)]; unfold kidsR; rw [P_row' h]; rfl
theorem ix_hd [Dfr] (t : T) : ix t.row 0 = t.hd ∧ idxOk 0 t.row.length = true := by
  cases t <;> exact ⟨rfl, idxOk_zero (by simp [T.row])⟩
theorem waits_l0_1 [Dfr] (k : Int) (a : T) (i : Nat) (hi : i + a.size ≤ 4000000) (ha : ref11_waits a.row (i : Int) = some ((a.wts i).map fun (k : Nat) => (k : Int))) (hl : (a.wts i).length ≤ 1000000) :
    ref11_waits_l0 [] k [a.row] (i : Int) 0 = some (0, (if 0 < goK k then a.wts i else []).map fun (k : Nat) => (k : Int)) := by
  have i0 : ix [a.row] 0 = a.row := rfl
  have j0 : idxOk 0 [a.row].length = true := rfl
  have on0 := ref11_on_s k 0 (by omega)
  rw [Int.natCast_zero] at on0
  have hw : w64 ((i : Int) + (a.row.length : Int)) = ((i + a.size : Nat) : Int) := by rw [T.len_row, w64_id (by omega) (by omega)]; omega
  have fin : ∀ acc, ref11_waits_l0 acc k [a.row] ((i + a.size : Nat) : Int) 1 = some (0, acc) := fun acc => by
    rw [ref11_waits_l0_eq]; rfl
  rw [ref11_waits_l0_eq, show decide ((0 : Int) < ([a.row].length : Int)) = true from rfl]
  simp only [cond_true, on0, Option.bind_some, i0, j0, hw, ha, List.length_nil, List.length_map, room (show (0 + (a.wts i).length) * 8 ≤ 140737488355328 by omega), List.nil_append, show w64 (0 + 1) = 1 from rfl, fin]
  by_cases hg : 0 < goK k
  · rw [decide_eq_true hg, if_pos hg]; rfl
  · rw [decide_eq_false hg, if_neg hg]; rfl
theorem waits_l0_2 [Dfr] (k : Int) (a b : T) (i : Nat) (hi : i + a.size + b.size ≤ 4000000) (ha : ref11_waits a.row (i : Int) = some ((a.wts i).map fun (k : Nat) => (k : Int))) (hb : ref11_waits b.row ((i + a.size : Nat) : Int) = some ((b.wts (i + a.size)).map fun (k : Nat) => (k : Int))) (hl : (a.wts i).length ≤ 1000000) (hl2 : (b.wts (i + a.size)).length ≤ 1000000) :
    ref11_waits_l0 [] k [a.row, b.row] (i : Int) 0 = some (0, ((if 0 < goK k then a.wts i else []) ++ (if 1 < goK k then b.wts (i + a.size) else [])).map fun (k : Nat) => (k : Int)) := by
  have i0 : ix [a.row, b.row] 0 = a.row := rfl
  have j0 : idxOk 0 [a.row, b.row].length = true := rfl
  have i1 : ix [a.row, b.row] 1 = b.row := rfl
  have j1 : idxOk 1 [a.row, b.row].length = true := rfl
  have on0 := ref11_on_s k 0 (by omega)
  have on1 := ref11_on_s k 1 (by omega)
  rw [Int.natCast_zero] at on0
  rw [show ((1 : Nat) : Int) = 1 from rfl] at on1
  have hw : w64 ((i : Int) + (a.row.length : Int)) = ((i + a.size : Nat) : Int) := by rw [T.len_row, w64_id (by omega) (by omega)]; omega
  have hw2 : w64 (((i + a.size : Nat) : Int) + (b.row.length : Int)) = ((i + a.size + b.size : Nat) : Int) := by rw [T.len_row, w64_id (by omega) (by omega)]; omega
  have fin : ∀ acc, ref11_waits_l0 acc k [a.row, b.row] ((i + a.size + b.size : Nat) : Int) 2 = some (0, acc) := fun acc => by
    rw [ref11_waits_l0_eq]; rfl
  have one : ∀ acc : List Int, acc.length ≤ 1000000 → ref11_waits_l0 acc k [a.row, b.row] ((i + a.size : Nat) : Int) 1 = some (0, acc ++ (if 1 < goK k then b.wts (i + a.size) else []).map fun (k : Nat) => (k : Int)) := fun acc hacc => by
    rw [ref11_waits_l0_eq, show decide ((1 : Int) < ([a.row, b.row].length : Int)) = true from rfl]
    simp only [cond_true, on1, Option.bind_some, i1, j1, hw2, hb, List.length_map, room (show (acc.length + (b.wts (i + a.size)).length) * 8 ≤ 140737488355328 by omega), show w64 (1 + 1) = 2 from rfl, fin]
    by_cases hg : 1 < goK k
    · rw [decide_eq_true hg, if_pos hg]; rfl
    · rw [decide_eq_false hg, if_neg hg]; simp
  rw [ref11_waits_l0_eq, show decide ((0 : Int) < ([a.row, b.row].length : Int)) = true from rfl]
  simp only [cond_true, on0, Option.bind_some, i0, j0, hw, ha, List.length_nil, List.length_map, room (show (0 + (a.wts i).length) * 8 ≤ 140737488355328 by omega), List.nil_append, show w64 (0 + 1) = 1 from rfl]
  rw [one _ (by rw [List.length_map]; exact hl), one _ (by simp), List.map_append]
  by_cases hg : 0 < goK k
  · rw [decide_eq_true hg, if_pos hg]; rfl
  · rw [decide_eq_false hg, if_neg hg]; rfl
theorem wts_len2 [Dfr] (t : T) (i : Nat) : (t.wts i).length ≤ t.size := by
  have := wts_shift t 0 i
  rw [Nat.zero_add] at this
  rw [this, List.length_map]
  exact wts_len' t
theorem ref11_waits_s [Dfr] : ∀ (t : T) (i : Nat), t.ok → i + t.size ≤ 1000000 → ref11_waits t.row (i : Int) = some ((t.wts i).map fun (k : Nat) => (k : Int))
  | .n0 n, i, hok, hs => by
    obtain ⟨e, e2⟩ := ix_hd (.n0 n)
    have l0 : ref11_waits_l0 [] n.1 [] (w64 ((i : Int) + 1)) 0 = some (0, []) := by rw [ref11_waits_l0_eq]; rfl
    rw [ref11_waits_eq, e, e2, rk0 hok]
    simp only [Option.bind_some, cond_true, T.hd, l0]
    rcases ar0 hok with h | h | h | h | h <;> (rw [T.wts, h]; rfl)
  | .n1 n a, i, hok, hs => by
    obtain ⟨e, e2⟩ := ix_hd (.n1 n a)
    simp only [T.size] at hs
    have ha := ref11_waits_s a (i + 1) hok.2 (by omega)
    have hl := wts_len2 a (i + 1)
    have hw : w64 ((i : Int) + 1) = ((i + 1 : Nat) : Int) := by rw [w64_id (by omega) (by omega)]; omega
    have l0 := waits_l0_1 n.1 a (i + 1) (by omega) ha (by omega)
    rw [ref11_waits_eq, e, e2, rk1 hok (by simp only [T.size]; omega)]
    simp only [Option.bind_some, cond_true, T.hd, hw, l0]
    rcases ar1 hok.1 with h | h <;> (rw [T.wts, h]; rfl)
  | .n2 n a b, i, hok, hs => by
    obtain ⟨e, e2⟩ := ix_hd (.n2 n a b)
    simp only [T.size] at hs
    have ha := ref11_waits_s a (i + 1) hok.2.1 (by omega)
    have hb := ref11_waits_s b (i + 1 + a.size) hok.2.2 (by omega)
    have hl := wts_len2 a (i + 1)
    have hl2 := wts_len2 b (i + 1 + a.size)
    have hw : w64 ((i : Int) + 1) = ((i + 1 : Nat) : Int) := by rw [w64_id (by omega) (by omega)]; omega
    have l0 := waits_l0_2 n.1 a b (i + 1) (by omega) ha hb (by omega) (by omega)
    rw [ref11_waits_eq, e, e2, rk2 hok (by simp only [T.size]; omega)]
    simp only [Option.bind_some, cond_true, T.hd, hw, l0]
    rcases ar2 hok.1 with h | h | h | h | h | h | h <;> (rw [T.wts, h]; rfl)
theorem ref11_Settled_s [Dfr] (l : List Nd) (hl : l.length ≤ 1000000) (hn : ∀ n ∈ l, n.2.1.size ≤ 9223372036854775807) : ref11_Settled l = some (decide (l ≠ [] ∧ settleR l = l)) := by
  have h2 := settleR_len l
  rw [ref11_Settled_eq]
  by_cases h : l = []
  · subst h; rfl
  · have hpos : 0 < l.length := List.length_pos_iff.2 h
    rw [decide_eq_true (show (l.length : Int) > 0 by omega), cond_true, ref10_Settle_s l (by omega) hn, Option.bind_some, ref03_Same_s _ _ (by omega), Option.bind_some]
    congr 1
    exact decide_eq_decide.2 ⟨fun h' => ⟨h, h'⟩, fun h' => h'.2⟩
theorem ref11_bang_s [Dfr] : ∀ (t : T), t.ok → t.size ≤ 1000000000 → ref11_bang t.row = some t.bang
  | .n0 n, hok, hl => by
    obtain ⟨e, e2⟩ := ix_hd (.n0 n)
    rw [ref11_bang_eq, rk0 hok]
    simp only [Option.bind_some, e, e2, cond_true, T.hd]
    rcases ar0 hok with h | h | h | h | h <;> rw [T.bang, h] <;> rfl
  | .n1 n a, hok, hl => by
    obtain ⟨e, e2⟩ := ix_hd (.n1 n a)
    rw [ref11_bang_eq, rk1 hok (by omega)]
    simp only [Option.bind_some, e, e2, cond_true, T.hd]
    rcases ar1 hok.1 with h | h <;> rw [T.bang, h] <;> rfl
  | .n2 n a b, hok, hl => by
    obtain ⟨e, e2⟩ := ix_hd (.n2 n a b)
    have e3 : ix [a.row, b.row] 0 = a.row := rfl
    have e4 : ix [a.row, b.row] 1 = b.row := rfl
    have i0 : idxOk 0 [a.row, b.row].length = true := rfl
    have i1 : idxOk 1 [a.row, b.row].length = true := rfl
    have hl' := hl
    simp only [T.size] at hl
    have ha := ref11_bang_s a hok.2.1 (by omega)
    have hb := ref11_bang_s b hok.2.2 (by omega)
    rw [ref11_bang_eq, rk2 hok (by omega)]
    simp only [Option.bind_some, e, e2, e3, e4, i0, i1, cond_true, ha, hb, T.hd]
    rcases ar2 hok.1 with h | h | h | h | h | h | h <;> rw [T.bang, h] <;> first | rfl | (cases a.bang <;> rfl)
theorem ref11_dm [Dfr] {c : T} (hok : c.ok) (hs : c.size ≤ 1000000) (hn : ∀ n ∈ c.row, n.2.1.size ≤ 9223372036854775807) : ref11_Doomed c.row = some (dmL c.row) := by
  rw [ref11_Doomed_eq, ref11_Settled_s _ (by rw [T.len_row]; exact hs) hn]
  unfold dmL
  rw [tree_row hok]
  by_cases h : setL c.row
  · rw [decide_eq_true (p := c.row ≠ [] ∧ settleR c.row = c.row) h, show @decide (setL c.row) (Classical.propDecidable _) = true from @decide_eq_true _ (Classical.propDecidable _) h]
    simp only [Option.bind_some, cond_true, Bool.true_and]
    rw [ref11_bang_s c hok (by omega)]; rfl
  · rw [decide_eq_false (p := c.row ≠ [] ∧ settleR c.row = c.row) h, show @decide (setL c.row) (Classical.propDecidable _) = false from @decide_eq_false _ (Classical.propDecidable _) h]
    rfl
theorem ref11_Active_s [Dfr] {l : List Nd} {t : T} (ht : tree l = some t) (hl : l.length ≤ 1000000) (hn : ∀ n ∈ l, n.2.1.size ≤ 9223372036854775807) (hs : setL l) : ref11_Active l = some ((t.wts 0).map fun (k : Nat) => (k : Int)) := by
  obtain ⟨hok, hrow⟩ := tree_iff.1 ht
  have hlen : l.length = t.size := by rw [hrow, T.len_row]
  have hw := ref11_waits_s t 0 hok (by omega)
  rw [Int.natCast_zero] at hw
  rw [ref11_Active_eq, ref11_Settled_s l hl hn, decide_eq_true (p := l ≠ [] ∧ settleR l = l) hs]
  simp only [Option.bind_some, Bool.not_true, cond_false]
  rw [hrow, hw]; rfl
theorem ref11_Active_no [Dfr] {l : List Nd} (hl : l.length ≤ 1000000) (hn : ∀ n ∈ l, n.2.1.size ≤ 9223372036854775807) (hs : ¬ setL l) : ref11_Active l = some [] := by
  rw [ref11_Active_eq, ref11_Settled_s l hl hn, decide_eq_false (p := l ≠ [] ∧ settleR l = l) hs]
  rfl
theorem ref11_in_l0s [Dfr] (xs : List Int) (x : Int) (b : Bool) (hx : xs.length ≤ 1000000) : ∀ (r : List Int) (i : Nat), xs.drop i = r → ref11_in_l0 xs x b (i : Int) = some (if x ∈ r then (1, true) else (0, b))
  | [], i, h => by
    obtain ⟨h1, h2⟩ := drop_nil h
    rw [ref11_in_l0_eq]
    simp only [h2, cond_false]
    simp
  | y :: r, i, h => by
    obtain ⟨h1, h2, h3, h4, h5, h6⟩ := drop_cons h
    rw [ref11_in_l0_eq]
    simp only [h2, h3, h4, cond_true, w_succ (show i < 9223372036854775807 by omega), ref11_in_l0s xs x b hx r (i + 1) h5]
    by_cases e : y = x
    · subst e; simp
    · rw [show (y == x) = false by simpa using e]
      simp [show ¬ x = y from fun h => e h.symm]
theorem ref11_in_s [Dfr] (xs : List Int) (x : Int) (hx : xs.length ≤ 1000000) : ref11_in xs x = some (decide (x ∈ xs)) := by
  have e := ref11_in_l0s xs x false hx xs 0 rfl
  rw [Int.natCast_zero] at e
  rw [ref11_in_eq, e, Option.bind_some]
  by_cases h : x ∈ xs <;> simp [h, Nat.beq]
theorem path_l0_1 [Dfr] (l : List Nd) (a : T) (i k : Nat) (hk : k < i + a.size) (hi : i + a.size ≤ 4000000) : ref11_Path_l0 l (k : Int) [a.row] (i : Int) 0 = some (0, (l, (k : Int), [a.row], (i : Int), 0)) := by
  rw [ref11_Path_l0_eq]
  have i0 : ix [a.row] 0 = a.row := rfl
  have j0 : idxOk 0 [a.row].length = true := rfl
  simp only [i0, j0, cond_true, T.len_row]
  rw [w64_id (by omega) (by omega), decide_eq_false (by omega)]; rfl
theorem path_l0_2 [Dfr] (l : List Nd) (a b : T) (i k : Nat) (hk : k < i + a.size + b.size) (hi : i + a.size + b.size ≤ 4000000) : ref11_Path_l0 l (k : Int) [a.row, b.row] (i : Int) 0 = some (0, (l, (k : Int), [a.row, b.row], if k < i + a.size then ((i : Int), 0) else (((i + a.size : Nat) : Int), 1))) := by
  have i0 : ix [a.row, b.row] 0 = a.row := rfl
  have j0 : idxOk 0 [a.row, b.row].length = true := rfl
  have i1 : ix [a.row, b.row] 1 = b.row := rfl
  have j1 : idxOk 1 [a.row, b.row].length = true := rfl
  rw [ref11_Path_l0_eq]
  simp only [i0, j0, cond_true, T.len_row]
  rw [w64_id (n := (i : Int) + (a.size : Int)) (by omega) (by omega)]
  by_cases h : k < i + a.size
  · rw [decide_eq_false (by omega), if_pos h]; rfl
  · rw [decide_eq_true (by omega), if_neg h, cond_true, show w64 (0 + 1) = 1 from rfl, ref11_Path_l0_eq]
    simp only [i1, j1, cond_true, T.len_row]
    rw [w64_id (by omega) (by omega), decide_eq_false (by omega), show (i : Int) + (a.size : Int) = ((i + a.size : Nat) : Int) by omega]; rfl
theorem ref11_Path_s [Dfr] : ∀ (t : T) (i k : Nat), t.ok → i ≤ k → k < i + t.size → i + t.size ≤ 1000000 → ref11_Path t.row (i : Int) (k : Int) = some (besideP (t.path i k))
  | .n0 n, i, k, hok, h1, h2, h3 => by
    simp only [T.size] at h2
    have : k = i := by omega
    subst this
    rw [ref11_Path_eq, beq_self_eq_true]; rfl
  | .n1 n a, i, k, hok, h1, h2, h3 => by
    simp only [T.size] at h2 h3
    rw [ref11_Path_eq, T.path_n1]
    by_cases e : k = i
    · subst e
      rw [beq_self_eq_true, if_pos rfl]; rfl
    · rw [show ((i : Int) == (k : Int)) = false by rw [beq_eq_false_iff_ne]; omega, if_neg e, cond_false, rk1 hok (by simp only [T.size]; omega)]
      have hw : w64 ((i : Int) + 1) = ((i + 1 : Nat) : Int) := by rw [w64_id (by omega) (by omega)]; omega
      have ih := ref11_Path_s a (i + 1) k hok.2 (by omega) (by omega) (by omega)
      obtain ⟨eh, eh2⟩ := ix_hd (.n1 n a)
      simp only [Option.bind_some, hw, path_l0_1 _ a (i + 1) k (by omega) (by omega), show ix [a.row] 0 = a.row from rfl, show idxOk 0 [a.row].length = true from rfl, cond_true, ih, eh, eh2, T.hd]
      have h7 : (n.1 == 7) = false := by
        rcases ar1 hok.1 with h | h <;> rw [h] <;> rfl
      rw [h7, besideP]
      cases hb : (besideP (a.path (i + 1) k)).2 with
      | true => simp only [cond_true, if_true]
      | false =>
        simp only [cond_false, Bool.false_eq_true, if_false]
        rw [if_neg (show ¬ (T.n1 n a).hd.1 = 7 from fun h => by rw [show (T.n1 n a).hd = n from rfl] at h; rw [h] at h7; cases h7)]
        rfl
  | .n2 n a b, i, k, hok, h1, h2, h3 => by
    simp only [T.size] at h2 h3
    rw [ref11_Path_eq, T.path_n2]
    by_cases e : k = i
    · subst e
      rw [beq_self_eq_true, if_pos rfl]; rfl
    · rw [show ((i : Int) == (k : Int)) = false by rw [beq_eq_false_iff_ne]; omega, if_neg e, cond_false, rk2 hok (by simp only [T.size]; omega)]
      have hw : w64 ((i : Int) + 1) = ((i + 1 : Nat) : Int) := by rw [w64_id (by omega) (by omega)]; omega
      obtain ⟨eh, eh2⟩ := ix_hd (.n2 n a b)
      have i0 : ix [a.row, b.row] 0 = a.row := rfl
      have j0 : idxOk 0 [a.row, b.row].length = true := rfl
      have i1 : ix [a.row, b.row] 1 = b.row := rfl
      have j1 : idxOk 1 [a.row, b.row].length = true := rfl
      simp only [Option.bind_some, hw, path_l0_2 _ a b (i + 1) k (by omega) (by omega)]
      by_cases hlt : k < i + 1 + a.size
      · have ih := ref11_Path_s a (i + 1) k hok.2.1 (by omega) (by omega) (by omega)
        have hroom := bes_len (a.path (i + 1) k)
        have hroom2 := T.path_len a (i + 1) k
        rw [if_pos hlt, if_pos hlt]
        simp only [i0, j0, cond_true, ih, Option.bind_some, eh, eh2, T.hd, show w64 (1 - 0) = 1 from rfl, i1, j1, room (show ((besideP (a.path (i + 1) k)).1.length + 1) * 24 ≤ 140737488355328 by omega)]
        rw [besideP]
        cases hb : (besideP (a.path (i + 1) k)).2 with
        | true => simp only [cond_true, if_true]
        | false =>
          simp only [cond_false, Bool.false_eq_true, if_false]
          by_cases h7 : n.1 = 7
          · rw [show (n.1 == 7) = true by rw [h7]; rfl, show (n.1 == 9) = false by rw [h7]; rfl, if_pos (show (T.n2 n a b).hd.1 = 7 from h7)]; rfl
          · rw [show (n.1 == 7) = false by rw [beq_eq_false_iff_ne]; exact h7, if_neg (show ¬ (T.n2 n a b).hd.1 = 7 from h7)]; rfl
      · have ih := ref11_Path_s b (i + 1 + a.size) k hok.2.2 (by omega) (by omega) (by omega)
        have hroom := bes_len (b.path (i + 1 + a.size) k)
        have hroom2 := T.path_len b (i + 1 + a.size) k
        rw [if_neg hlt, if_neg hlt]
        simp only [i1, j1, cond_true, ih, Option.bind_some, eh, eh2, T.hd, show w64 (1 - 1) = 0 from rfl, i0, j0, room (show ((besideP (b.path (i + 1 + a.size) k)).1.length + 1) * 24 ≤ 140737488355328 by omega)]
        rw [besideP]
        cases hb : (besideP (b.path (i + 1 + a.size) k)).2 with
        | true => simp only [cond_true, if_true]
        | false =>
          simp only [cond_false, Bool.false_eq_true, if_false]
          by_cases h7 : n.1 = 7
          · rw [show (n.1 == 7) = true by rw [h7]; rfl, show (n.1 == 9) = false by rw [h7]; rfl, if_pos (show (T.n2 n a b).hd.1 = 7 from h7)]; rfl
          · rw [show (n.1 == 7) = false by rw [beq_eq_false_iff_ne]; exact h7, if_neg (show ¬ (T.n2 n a b).hd.1 = 7 from h7)]; rfl
theorem ref11_Free_l0s [Dfr] (xs : List (List Nd)) (hx : xs.length ≤ 1000000) (hd : ∀ x ∈ xs, ref11_Doomed x = some (dmL x)) : ∀ (r : List (List Nd)) (i : Nat) (b : Bool), xs.drop i = r → ref11_Free_l0 xs b (i : Int) = some (0, b || r.any dmL)
  | [], i, b, h => by
    obtain ⟨h1, h2⟩ := drop_nil h
    rw [ref11_Free_l0_eq]
    simp only [h2, cond_false]
    simp
  | x :: r, i, b, h => by
    obtain ⟨h1, h2, h3, h4, h5, h6⟩ := drop_cons h
    have hm := hd x (List.mem_of_mem_drop (by rw [h]; exact List.mem_cons_self ..))
    rw [ref11_Free_l0_eq]
    simp only [h2, h3, h4, cond_true, hm, Option.bind_some, w_succ (show i < 9223372036854775807 by omega), ref11_Free_l0s xs hx hd r (i + 1) _ h5]
    cases b with
    | true => simp
    | false => simp
theorem ref11_Free_in [Dfr] {l : List Nd} {t : T} (ht : tree l = some t) (hl : l.length ≤ 1000000) (hn : ∀ n ∈ l, n.2.1.size ≤ 9223372036854775807) (hnm : ∀ c : T, c.ok → (∃ k, c.row ∈ (besideP (t.path 0 k)).1) → ∀ n ∈ c.row, n.2.1.size ≤ 9223372036854775807) (hs : setL l) {k : Nat} (hk : k ∈ t.wts 0) : ref11_Free l (k : Int) = some (freeT t k) := by
  obtain ⟨hok, hrow⟩ := tree_iff.1 ht
  have hlen : l.length = t.size := by rw [hrow, T.len_row]
  have hkr := wts_range t 0 k hk
  have hw := wts_len' t
  have hp := ref11_Path_s t 0 k hok (by omega) (by omega) (by omega)
  rw [Int.natCast_zero] at hp
  have h1 := bes_len (t.path 0 k)
  have h2 := T.path_len t 0 k
  have e := ref11_Free_l0s (besideP (t.path 0 k)).1 (by omega) (fun x hx => by
    obtain ⟨c, c1, c2, rfl⟩ := bes_tree hok hx
    exact ref11_dm c1 (by omega) (hnm c c1 ⟨k, hx⟩)) (besideP (t.path 0 k)).1 0 (!(besideP (t.path 0 k)).2) rfl
  rw [Int.natCast_zero] at e
  rw [ref11_Free_eq, ref11_Active_s ht hl hn hs, Option.bind_some, ref11_in_s _ _ (by rw [List.length_map]; omega), decide_eq_true (List.mem_map.2 ⟨k, hk, rfl⟩)]
  simp only [Option.bind_some, Bool.not_true, cond_false]
  rw [hrow, hp, Option.bind_some, e]
  rfl
theorem part_names [Dfr] {l : List Nd} {t : T} (ht : tree l = some t) (hn : ∀ n ∈ l, n.2.1.size ≤ 9223372036854775807) : ∀ c : T, c.ok → (∃ k, c.row ∈ (besideP (t.path 0 k)).1) → ∀ n ∈ c.row, n.2.1.size ≤ 9223372036854775807 := fun c hc ⟨k, hk⟩ n hnc => by
  obtain ⟨hok, hrow⟩ := tree_iff.1 ht
  have sub : ∀ (t : T) (i : Nat), t.ok → ∀ x ∈ t.path i k, x.2.2.hd.1 = 7 → ∀ n ∈ x.2.2.kid (1 - x.2.1), n ∈ t.row := by
    intro t
    induction t with
    | n0 n => intro i _ x hx; cases hx
    | n1 n a ih =>
      intro i hok x hx h7 m hm
      rw [T.path_n1] at hx
      split at hx
      · cases hx
      · rcases List.mem_cons.1 hx with rfl | hx
        · exfalso
          have h7 : n.1 = 7 := h7
          have := hok.1
          rw [h7] at this
          cases this
        · exact List.mem_cons_of_mem _ (ih (i + 1) hok.2 x hx h7 m hm)
    | n2 n a b iha ihb =>
      intro i hok x hx h7 m hm
      rw [T.path_n2] at hx
      split at hx
      · cases hx
      · split at hx
        · rcases List.mem_cons.1 hx with rfl | hx
          · exact List.mem_cons_of_mem _ (List.mem_append_right _ hm)
          · exact List.mem_cons_of_mem _ (List.mem_append_left _ (iha (i + 1) hok.2.1 x hx h7 m hm))
        · rcases List.mem_cons.1 hx with rfl | hx
          · exact List.mem_cons_of_mem _ (List.mem_append_left _ hm)
          · exact List.mem_cons_of_mem _ (List.mem_append_right _ (ihb (i + 1 + a.size) hok.2.2 x hx h7 m hm))
  obtain ⟨x, hx, h7, e⟩ := bes_mem hk
  rw [e] at hnc
  have := sub t 0 hok x hx h7 n hnc
  rw [← hrow] at this
  exact hn n this
end Go.Proofs.YtjogkjgpbeenfaaGreatDoor.Sv
