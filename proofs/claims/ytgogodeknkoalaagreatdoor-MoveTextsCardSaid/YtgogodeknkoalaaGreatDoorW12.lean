/- What package move computes: in plain words. -/
import Derived.Test.YtgogodeknkoalaaGreatDoorW11b
namespace Go.Proofs.YtgogodeknkoalaaGreatDoor.Sv
open Go Go.Sv Go.Rd
set_option linter.unusedVariables false
set_option linter.unusedSimpArgs false
/-- The ways of each kind: how, and the function that tells whether one may. -/
def tabW : List (Int × List (Int × Nat)) := [(1, [(1, move_always_id)]), (6, [(2, move_always_id), (3, move_always_id)]), (4, [(4, move_always_id), (5, doom_Free_id)]), (10, [(4, move_always_id), (5, doom_Free_id)])]
/-- What is proved of 'ways' by hand. -/
class HasWays [Dfr] : Prop where
  ways : move_ways_spec = some tabW
/-- The moves at a place of a kind. -/
def mvsAt (kd : Int) (at_ : Int) (free : Bool) : List Mv :=
  if kd = 1 then [(at_, 1)] else if kd = 6 then [(at_, 2), (at_, 3)] else (at_, 4) :: (if free = true then [(at_, 5)] else [])
theorem mvsAt_len [Dfr] (kd at_ : Int) (f : Bool) : (mvsAt kd at_ f).length ≤ 2 := by
  unfold mvsAt
  split
  · simp
  · split
    · simp
    · split <;> simp
theorem move_Enabled_l2s [Dfr] (l : List Nd) (tb : List (Int × List (Int × Nat))) (at_ : Int) (y11 : List Int) (y12 y13 : Int) (ws : List (Int × Nat)) (hw : ws.length ≤ 1000) (ok : Nat → Bool)
    (hd : ∀ w ∈ ws, dyn E ⟨w.2, []⟩ [.one (.slice 40 (.pair (.int .i64) (.pair .str (.int .i64))) l .no), .one (.int .i64 at_)] .bool = some (ok w.2)) : ∀ (r : List (Int × Nat)) (i : Nat) (acc : List Mv), ws.drop i = r → acc.length + r.length ≤ 4000000 →
    move_Enabled_l2 l tb acc at_ y11 y12 y13 ws (ws.length : Int) (i : Int) = some (0, (l, tb, acc ++ (r.filter fun w => ok w.2).map fun w => (at_, w.1), y11, y12, y13))
  | [], i, acc, h, ha => by
    obtain ⟨h1, h2⟩ := drop_nil h
    rw [move_Enabled_l2_eq]
    simp only [h2, cond_false]
    simp
  | w :: r, i, acc, h, ha => by
    obtain ⟨h1, h2, h3, h4, h5, h6⟩ := drop_cons h
    have hm := hd w (List.mem_of_mem_drop (by rw [h]; exact List.mem_cons_self ..))
    simp only [List.length_cons] at ha
    rw [move_Enabled_l2_eq]
    simp only [h2, h3, h4, cond_true, hm, Option.bind_some, w_succ (show i < 9223372036854775807 by omega)]
    rw [List.filter_cons]
    cases ho : ok w.2 with
    | true =>
      simp only [cond_true, room (show (acc.length + 1) * 16 ≤ 140737488355328 by omega), if_true]
      rw [move_Enabled_l2s l tb at_ y11 y12 y13 ws hw ok hd r (i + 1) _ h5 (by simp; omega)]
      simp
    | false =>
      simp only [cond_false, Bool.false_eq_true, if_false]
      rw [move_Enabled_l2s l tb at_ y11 y12 y13 ws hw ok hd r (i + 1) _ h5 (by omega)]
/-- The ways at a place, of a kind that waits. -/
theorem move_Enabled_l2t [Dfr] (l : List Nd) (at_ : Int) (y11 : List Int) (y12 y13 : Int) (kd : Int) (hk : waitK kd = true) (f : Bool) (hf : doom_Free l at_ = some f) (acc : List Mv) (ha : acc.length ≤ 3000000) :
    move_Enabled_l2 l tabW acc at_ y11 y12 y13 (lookTab tabW kd) ((lookTab tabW kd).length : Int) 0 = some (0, (l, tabW, acc ++ mvsAt kd at_ f, y11, y12, y13)) := by
  have ha' : dyn E ⟨move_always_id, []⟩ [.one (.slice 40 (.pair (.int .i64) (.pair .str (.int .i64))) l .no), .one (.int .i64 at_)] .bool = some true := (move_always_dyn l at_).trans (move_always_eq l at_)
  have hf' : dyn E ⟨doom_Free_id, []⟩ [.one (.slice 40 (.pair (.int .i64) (.pair .str (.int .i64))) l .no), .one (.int .i64 at_)] .bool = some f := (doom_Free_dyn l at_).trans hf
  have key : ∀ ws : List (Int × Nat), lookTab tabW kd = ws → (∀ w ∈ ws, w.2 = move_always_id ∨ w.2 = doom_Free_id) → ws.length ≤ 2 →
      move_Enabled_l2 l tabW acc at_ y11 y12 y13 (lookTab tabW kd) ((lookTab tabW kd).length : Int) 0 = some (0, (l, tabW, acc ++ (ws.filter fun w => if w.2 = doom_Free_id then f else true).map fun w => (at_, w.1), y11, y12, y13)) := fun ws e hm hl => by
    have := move_Enabled_l2s l tabW at_ y11 y12 y13 ws (by omega) (fun q => if q = doom_Free_id then f else true) (fun w hw => by
      rcases hm w hw with h | h
      · rw [h, ha', if_neg (by decide)]
      · rw [h, hf', if_pos rfl]) ws 0 acc rfl (by omega)
    rw [Int.natCast_zero] at this
    rw [e]
    exact this
  unfold waitK at hk
  have hk := of_decide_eq_true hk
  have d1 : ¬ move_always_id = doom_Free_id := by decide
  rcases hk with rfl | rfl | rfl | rfl
  · rw [key [(1, move_always_id)] rfl (by simp) (by simp)]
    simp [mvsAt, d1]
  · rw [key [(2, move_always_id), (3, move_always_id)] rfl (by simp) (by simp)]
    simp [mvsAt, d1]
  · rw [key [(4, move_always_id), (5, doom_Free_id)] rfl (by simp) (by simp)]
    cases f <;> simp [mvsAt, d1]
  · rw [key [(4, move_always_id), (5, doom_Free_id)] rfl (by simp) (by simp)]
    cases f <;> simp [mvsAt, d1]
theorem move_Enabled_l0s [Dfr] (l : List Nd) (xs : List Int) (hx : xs.length ≤ 1000000) (fr : Int → Bool) (hk : ∀ x ∈ xs, idxOk x l.length = true ∧ waitK (ix l x).1 = true ∧ doom_Free l x = some (fr x)) : ∀ (r : List Int) (i : Nat) (acc : List Mv), xs.drop i = r → acc.length ≤ 2 * i →
    move_Enabled_l0 l tabW acc xs (xs.length : Int) (i : Int) = some (0, acc ++ r.flatMap fun x => mvsAt (ix l x).1 x (fr x))
  | [], i, acc, h, ha => by
    obtain ⟨h1, h2⟩ := drop_nil h
    rw [move_Enabled_l0_eq]
    simp only [h2, cond_false]
    simp
  | x :: r, i, acc, h, ha => by
    obtain ⟨h1, h2, h3, h4, h5, h6⟩ := drop_cons h
    obtain ⟨k1, k2, k3⟩ := hk x (List.mem_of_mem_drop (by rw [h]; exact List.mem_cons_self ..))
    have hl := mvsAt_len (ix l x).1 x (fr x)
    rw [move_Enabled_l0_eq]
    simp only [h2, h3, h4, cond_true, k1, move_Enabled_l2t l x xs (xs.length : Int) (i : Int) (ix l x).1 k2 (fr x) k3 acc (by omega), Option.bind_some, w_succ (show i < 9223372036854775807 by omega)]
    rw [move_Enabled_l0s l xs hx fr hk r (i + 1) _ h5 (by rw [List.length_append]; omega)]
    simp
/-- The moves of a tree. -/
noncomputable def mvsT (l : List Nd) (t : T) : List Mv := (t.wts 0).flatMap fun k => mvsAt (l.getD k default).1 (k : Int) (freeT t k)
theorem wts_kind [Dfr] {l : List Nd} {t : T} (ht : tree l = some t) {k : Nat} (hk : k ∈ t.wts 0) : k < l.length ∧ waitK (l.getD k default).1 = true := by
  obtain ⟨hok, hrow⟩ := tree_iff.1 ht
  rw [wts_filter l t 0 [] (by rw [List.drop_zero, List.append_nil]; exact hrow), List.mem_filter] at hk
  obtain ⟨h1, h2⟩ := hk
  rw [List.mem_range'_1] at h1
  rw [Bool.and_eq_true] at h2
  exact ⟨by rw [hrow, T.len_row]; omega, h2.1⟩
theorem wts_wk [Dfr] {l : List Nd} {t : T} (ht : tree l = some t) {x : Int} (hx : x ∈ (t.wts 0).map fun (k : Nat) => (k : Int)) : idxOk x l.length = true ∧ waitK (ix l x).1 = true ∧ ix l x = l.getD x.toNat default := by
  obtain ⟨k, hk, rfl⟩ := List.mem_map.1 hx
  obtain ⟨h1, h2⟩ := wts_kind ht hk
  have h3 : ix l (k : Int) = l.getD k default := by rw [ix_nat h1, List.getD_eq_getElem?_getD, List.getElem?_eq_getElem h1]; rfl
  exact ⟨idxOk_nat h1, by rw [h3]; exact h2, h3⟩
theorem move_Enabled_s [Dfr] [HasOver] [HasWays] {l : List Nd} {t : T} (ht : tree l = some t) (hl : l.length ≤ 1000000) (hs : setL l) : move_Enabled l = some (mvsT l t) := by
  obtain ⟨hok, hrow⟩ := tree_iff.1 ht
  have hlen : l.length = t.size := by rw [hrow, T.len_row]
  have hw := wts_len' t
  have e := move_Enabled_l0s l ((t.wts 0).map fun (k : Nat) => (k : Int)) (by rw [List.length_map]; omega) (fun x => freeT t x.toNat) (fun x hx => by
    obtain ⟨k1, k2, _⟩ := wts_wk ht hx
    obtain ⟨k, hk, rfl⟩ := List.mem_map.1 hx
    exact ⟨k1, k2, doom_Free_in ht hl hs hk⟩) _ 0 [] rfl (by simp)
  rw [Int.natCast_zero] at e
  rw [move_Enabled_eq, move_ways_eq, HasWays.ways, Option.bind_some, doom_Active_s ht hl hs, Option.bind_some, e, Option.bind_some, List.nil_append]
  congr 1
  show List.flatMap _ (List.drop 0 _) = _
  unfold mvsT
  rw [List.drop_zero, List.flatMap_map, List.flatMap_def, List.flatMap_def]
  refine congrArg List.flatten (List.map_congr_left fun k hk => ?_)
  rw [(wts_wk ht (List.mem_map.2 ⟨k, hk, rfl⟩)).2.2]
  rfl
theorem move_Enabled_no [Dfr] [HasOver] [HasWays] {l : List Nd} (hl : l.length ≤ 1000000) (hs : ¬ setL l) : move_Enabled l = some [] := by
  have e := move_Enabled_l0s l [] (by simp) (fun _ => false) (fun x hx => by cases hx) [] 0 [] rfl (by simp)
  rw [Int.natCast_zero] at e
  rw [move_Enabled_eq, move_ways_eq, HasWays.ways, Option.bind_some, doom_Active_no hl hs, Option.bind_some, e]
  rfl
/-- The moves of anything. -/
noncomputable def enL (l : List Nd) : List Mv := match @decide (setL l) (Classical.propDecidable _), tree l with
  | true, some t => mvsT l t
  | _, _ => []
theorem enL_in [Dfr] {l : List Nd} {t : T} (ht : tree l = some t) (hs : setL l) : enL l = mvsT l t := by
  unfold enL
  rw [@decide_eq_true _ (Classical.propDecidable _) hs, ht]
theorem enL_no [Dfr] {l : List Nd} (hs : ¬ setL l) : enL l = [] := by
  unfold enL
  rw [@decide_eq_false _ (Classical.propDecidable _) hs]
theorem set_tree [Dfr] {l : List Nd} (h : setL l) : ∃ m : Tm, l = m.row ∧ m.fine ∧ m.size ≤ 200 ∧ (m.po = true ∨ m.qo = true) ∧ m.st = m ∧ sOf l = m.so ∧ tree l = some m.t := by
  obtain ⟨m, hm, hf, h1, h2, h3, h4⟩ := set_term h
  exact ⟨m, hm, hf, h1, h2, h3, h4, by rw [hm]; exact tree_row (Tm.t_ok m)⟩
theorem move_Enabled_en [Dfr] [HasOver] [HasWays] (l : List Nd) (hl : l.length ≤ 1000000) : move_Enabled l = some (enL l) := by
  by_cases hs : setL l
  · obtain ⟨m, _, _, _, _, _, _, ht⟩ := set_tree hs
    rw [move_Enabled_s ht hl hs, enL_in ht hs]
  · rw [move_Enabled_no hl hs, enL_no hs]
theorem mvsT_len [Dfr] (l : List Nd) (t : T) : (mvsT l t).length ≤ 2 * t.size := by
  have hw := wts_len' t
  unfold mvsT
  have key : ∀ r : List Nat, (r.flatMap fun k => mvsAt (l.getD k default).1 (k : Int) (freeT t k)).length ≤ 2 * r.length := fun r => by
    induction r with
    | nil => simp
    | cons k r ih =>
      have := mvsAt_len (l.getD k default).1 (k : Int) (freeT t k)
      simp only [List.flatMap_cons, List.length_append, List.length_cons]
      omega
  have := key (t.wts 0)
  omega
theorem enL_len [Dfr] (l : List Nd) : (enL l).length ≤ 400 := by
  by_cases hs : setL l
  · obtain ⟨m, hm, _, hz, _, _, _, ht⟩ := set_tree hs
    rw [enL_in ht hs]
    have := mvsT_len l m.t
    have h2 : m.t.size = m.size := by rw [← T.len_row]; exact Tm.len_row m
    omega
  · rw [enL_no hs]; simp
theorem move_Is_s [Dfr] [HasOver] [HasWays] (l : List Nd) (m : Mv) (hl : l.length ≤ 1000000) : move_Is l m = some (decide (m ∈ enL l)) := by
  have h := enL_len l
  rw [move_Is_eq, move_Enabled_en l hl, Option.bind_some, slices_Contains__api_Move_s _ _ (by omega)]
  rfl
/-- The number of a move, from the front or from the back. -/
def pickI (n : Int) (k : Nat) : Nat := (if n.tmod (k : Int) < 0 then n.tmod (k : Int) + (k : Int) else n.tmod (k : Int)).toNat
theorem pickI_lt [Dfr] (n : Int) {k : Nat} (hk : 0 < k) : pickI n k < k ∧ (if n.tmod (k : Int) < 0 then n.tmod (k : Int) + (k : Int) else n.tmod (k : Int)) = (pickI n k : Int) := by
  have h1 := Int.tmod_lt_of_pos n (show (0 : Int) < (k : Int) by omega)
  have h2 : -(k : Int) < n.tmod (k : Int) := by
    have := Int.tmod_lt_of_pos (-n) (show (0 : Int) < (k : Int) by omega)
    rw [Int.neg_tmod] at this
    omega
  unfold pickI
  split <;> omega
noncomputable def pickL (l : List Mv) (n : Int) : Mv × Int := if l = [] then ((0, 0), 120) else (l.getD (pickI n l.length) default, 0)
theorem pick_core [Dfr] (r1 : List Mv) (x1 : Int) (h : r1.length ≤ 4000000) :
    (bif ((r1.length : Int) == 0) then (some (((0, 0) : Mv), (120 : Int))) else (bif ((r1.length : Int) == 0) then (none) else (bif (decide ((x1.tmod (r1.length : Int)) < 0)) then (bif (idxOk (w64 ((x1.tmod (r1.length : Int)) + (r1.length : Int))) r1.length) then (some (ix r1 (w64 ((x1.tmod (r1.length : Int)) + (r1.length : Int))), 0)) else (none)) else (bif (idxOk (x1.tmod (r1.length : Int)) r1.length) then (some (ix r1 (x1.tmod (r1.length : Int)), 0)) else (none))))) = some (pickL r1 x1) := by
  unfold pickL
  cases r1 with
  | nil => rfl
  | cons a r =>
    generalize hL : a :: r = L at h ⊢
    have hpos : 0 < L.length := by rw [← hL]; simp
    have h0 : ((L.length : Int) == 0) = false := by rw [beq_eq_false_iff_ne]; omega
    rw [if_neg (show ¬ L = [] from fun h => by rw [h] at hpos; simp at hpos)]
    simp only [h0, cond_false]
    obtain ⟨h1, h2⟩ := pickI_lt x1 hpos
    have h3 : ix L ((pickI x1 L.length : Nat) : Int) = L.getD (pickI x1 L.length) default := by rw [ix_nat h1, List.getD_eq_getElem?_getD, List.getElem?_eq_getElem h1]; rfl
    by_cases hn : x1.tmod (L.length : Int) < 0
    · rw [if_pos hn] at h2
      rw [decide_eq_true hn, cond_true, w64_id (by omega) (by omega), h2, idxOk_nat h1, h3]; rfl
    · rw [if_neg hn] at h2
      rw [decide_eq_false hn, cond_false, h2, idxOk_nat h1, h3]; rfl
theorem move_Pick_s [Dfr] [HasOver] [HasWays] (l : List Nd) (n : Int) (hl : l.length ≤ 1000000) : move_Pick l n = some (pickL (enL l) n) := by
  have h := enL_len l
  rw [move_Pick_eq, move_Enabled_en l hl, Option.bind_some]
  exact pick_core _ _ (by omega)
end Go.Proofs.YtgogodeknkoalaaGreatDoor.Sv
