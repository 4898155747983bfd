/- The laws of moves: what each tells. -/
import Derived.Test.YtgogodeknkoalaaGreatDoorR12
import Derived.Test.YtgogodeknkoalaaGreatDoorX14
namespace Go.Proofs.YtgogodeknkoalaaGreatDoor.Sv
open Go Go.Sv Go.Rd
set_option linter.unusedVariables false
set_option linter.unusedSimpArgs false
theorem law12_few_s [Dfr] (l : List Nd) : law12_few l = some (decide (l.length ≤ 100 ∧ dep l ≤ 24)) := by
  rw [law12_few_eq]
  by_cases h : l.length ≤ 100
  · have e : decide ((l.length : Int) ≤ 100) = true := decide_eq_true (by omega)
    simp only [e, cond_true, ref03_Depth_s l (by omega), Option.bind_some, h, true_and]
    congr 1
    rw [decide_eq_decide]; omega
  · have e : decide ((l.length : Int) ≤ 100) = false := decide_eq_false (by omega)
    simp only [e, cond_false, h, false_and, decide_false]
/-- An action beside one that may give way. -/
def mY : Tm := .par (.act ⟨#[97]⟩) .yield
theorem set_mY [Dfr] : setL mY.row := by
  refine term_set (by simp only [mY, Tm.fine, Tm.good]; decide) (by decide) (by decide) ?_
  unfold mY
  rw [Tm.st_par]; rfl
theorem tree_mY [Dfr] : tree mY.row = some mY.t := tree_row (Tm.t_ok mY)
theorem en_mY [Dfr] : enL mY.row = [(1, 1), (2, 4), (2, 5)] := by
  rw [enL_in tree_mY set_mY]
  unfold mvsT
  rw [show mY.t.wts 0 = [1, 2] by decide]
  have hf : freeT mY.t 2 = true := by
    unfold freeT
    rw [show (besideP (mY.t.path 0 2)).2 = false by decide]
    rfl
  simp only [List.flatMap_cons, List.flatMap_nil, List.append_nil, hf]
  rfl
theorem en_none [Dfr] {l : List Nd} {t : T} (ht : tree l = some t) (hw : t.wts 0 = []) : enL l = [] := by
  by_cases hs : setL l
  · rw [enL_in ht hs]
    unfold mvsT
    rw [hw]; rfl
  · exact enL_no hs
theorem move_Text_s [Dfr] [HasText] (m : Mv) : move_Text m = text_spec m := by rw [move_Text_eq, HasText.text]
theorem law12_alive_s [Dfr] [HasOver] [HasWays] [HasText] : law12_alive = some true := by
  rw [law12_alive_eq]
  have eY : ([(7, ByteArray.empty, 0), (1, ⟨#[97]⟩, 0), (4, ByteArray.empty, 0)] : List Nd) = mY.row := rfl
  have eO : enL [(11, ByteArray.empty, 1)] = [] := en_none (t := .n0 (11, ByteArray.empty, 1)) (by decide) (by decide)
  have hl : mY.row.length ≤ 1000000 := by decide
  have p1 : pickL [(1, 1), (2, 4), (2, 5)] 4 = ((2, 4), 0) := by decide
  have p2 : pickL [(1, 1), (2, 4), (2, 5)] (-1) = ((2, 5), 0) := by decide
  have p3 : pickL [] 0 = ((0, 0), 120) := by decide
  have t1 : text_spec (2, 4) = some ⟨#[103, 111, 32, 50]⟩ := by
    unfold text_spec
    rw [if_pos (by decide), if_pos (by decide), show ((2 : Int), (4 : Int)).1.toNat = 2 from rfl, Lib.decDigits_one (by decide)]
    rfl
  have t2 : text_spec (0, 9) = some ⟨#[]⟩ := by
    unfold text_spec
    rw [if_neg (by decide)]
  rw [eY]
  simp only [move_Pick_s _ _ hl, move_Pick_s [(11, ByteArray.empty, 1)] 0 (by decide), move_Enabled_en _ hl, move_Is_s _ _ hl, en_mY, eO, p1, p2, p3, Option.bind_some, ref12_Same_s _ _ (show ([(1, 1), (2, 4), (2, 5)] : List Mv).length ≤ 1000000 by decide), decide_true, cond_true,
    move_Text_s, t1, t2, str_eq]
  rfl
theorem law12_MoveEnabled_true [Dfr] [HasOver] [HasWays] [HasText] (l : List Nd) (hl : wfRow l) : law12_MoveEnabled l = some true := by
  rw [law12_MoveEnabled_eq, law12_few_s, Option.bind_some]
  by_cases hf : l.length ≤ 100 ∧ dep l ≤ 24
  · have h := enL_len l
    rw [decide_eq_true hf]
    simp only [Bool.not_true, cond_false, law12_alive_s, Option.bind_some, cond_true, move_Enabled_en l (by omega), ref12_Enabled_en l (by omega) hl.names, ref12_Same_s _ _ (show (enL l).length ≤ 1000000 by omega), decide_true]
  · rw [decide_eq_false hf]
    simp only [Bool.not_false, cond_true, law12_alive_s, Option.bind_some]
theorem pick_mem [Dfr] {l : List Mv} {n : Int} (h : (pickL l n).2 = 0) : (pickL l n).1 ∈ l := by
  unfold pickL at h ⊢
  split at h
  · cases h
  · rename_i hne
    rw [if_neg hne]
    have hpos : 0 < l.length := List.length_pos_iff.2 hne
    obtain ⟨h1, _⟩ := pickI_lt n hpos
    show l.getD _ _ ∈ l
    rw [List.getD_eq_getElem?_getD, List.getElem?_eq_getElem h1]
    exact List.getElem_mem h1
theorem law12_MovePicks_true [Dfr] [HasOver] [HasWays] [HasText] (l : List Nd) (n : Int) (m : Mv) (hl : wfRow l) (hn : (Lit.int .i64 n).wf = true) (hm : (Ty.pair (.int .i64) (.int .i64)).wf m) : law12_MovePicks l n m = some true := by
  rw [law12_MovePicks_eq, law12_few_s, Option.bind_some]
  by_cases hf : l.length ≤ 100 ∧ dep l ≤ 24
  · rw [decide_eq_true hf]
    simp only [Bool.not_true, cond_false, law12_alive_s, Option.bind_some, cond_true, move_Pick_s l n (by omega), ref12_Pick_s l n (by omega) hl.names, move_Is_s l _ (by omega), ref12_Is_s l m (by omega) hl.names, beq_self_eq_true, Bool.and_self]
    cases hz : ((pickL (enL l) n).2 != 0) with
    | true => rfl
    | false =>
      have h0 : (pickL (enL l) n).2 = 0 := by simpa using hz
      simp only [cond_false, decide_eq_true (pick_mem h0)]
  · rw [decide_eq_false hf]
    simp only [Bool.not_false, cond_true, law12_alive_s, Option.bind_some]
theorem pick_at [Dfr] (L : List Mv) (hL : L.length ≤ 1000000) (i : Nat) (hi : i < L.length) (n : Int) (hn : n = (i : Int) ∨ n = (i : Int) + (L.length : Int) ∨ n = (i : Int) - (L.length : Int)) : pickL L n = (L.getD i default, 0) := by
  have hne : L ≠ [] := fun h => by rw [h] at hi; simp at hi
  have hk : pickI n L.length = i := by
    unfold pickI
    rcases hn with rfl | rfl | rfl
    · rw [Int.tmod_eq_of_lt (by omega) (by omega), if_neg (by omega)]; omega
    · have : ((i : Int) + (L.length : Int)).tmod (L.length : Int) = (i : Int) := by
        rw [Int.tmod_eq_emod_of_nonneg (by omega), Int.add_emod_right, Int.emod_eq_of_lt (by omega) (by omega)]
      rw [this, if_neg (by omega)]; omega
    · by_cases h0 : i = 0
      · subst h0
        have : ((0 : Nat) : Int) - (L.length : Int) = -(L.length : Int) := by omega
        rw [this, Int.neg_tmod, Int.tmod_self]; rfl
      · have : ((i : Int) - (L.length : Int)).tmod (L.length : Int) = (i : Int) - (L.length : Int) := by
          have e : (i : Int) - (L.length : Int) = -((L.length : Int) - (i : Int)) := by omega
          rw [e, Int.neg_tmod, Int.tmod_eq_of_lt (by omega) (by omega)]
        rw [this, if_pos (by omega)]; omega
  unfold pickL
  rw [if_neg hne, hk]
theorem law12_MoveRound_l0s [Dfr] [HasOver] [HasWays] (l : List Nd) (b : Bool) (hl : l.length ≤ 1000000) : ∀ (r : List Mv) (i : Nat), (enL l).drop i = r → law12_MoveRound_l0 l b (enL l) (enL l) ((enL l).length : Int) (i : Int) = some (0, b)
  | [], i, h => by
    obtain ⟨h1, h2⟩ := drop_nil h
    rw [law12_MoveRound_l0_eq]
    simp only [h2, cond_false]
  | x :: r, i, h => by
    obtain ⟨h1, h2, h3, h4, h5, h6⟩ := drop_cons h
    have hL := enL_len l
    have hg : (enL l).getD i default = x := by
      have : (enL l)[i]? = some x := by rw [← List.head?_drop, h]; rfl
      rw [List.getD_eq_getElem?_getD, this]; rfl
    have w1 : w64 ((i : Int) + ((enL l).length : Int)) = (i : Int) + ((enL l).length : Int) := w64_id (by omega) (by omega)
    have w2 : w64 ((i : Int) - ((enL l).length : Int)) = (i : Int) - ((enL l).length : Int) := w64_id (by omega) (by omega)
    rw [law12_MoveRound_l0_eq]
    simp only [h2, h3, h4, cond_true, w1, w2, move_Pick_s l _ hl, pick_at (enL l) (by omega) i h1 _ (.inl rfl), pick_at (enL l) (by omega) i h1 _ (.inr (.inl rfl)), pick_at (enL l) (by omega) i h1 _ (.inr (.inr rfl)), hg, Option.bind_some, beq_self_eq_true, Bool.and_self, Bool.not_true, cond_false,
      bne_self_eq_false, w_succ (show i < 9223372036854775807 by omega), law12_MoveRound_l0s l b hl r (i + 1) h5]
theorem law12_MoveRound_true [Dfr] [HasOver] [HasWays] [HasText] (l : List Nd) (hl : wfRow l) : law12_MoveRound l = some true := by
  rw [law12_MoveRound_eq, law12_few_s, Option.bind_some]
  by_cases hf : l.length ≤ 100 ∧ dep l ≤ 24
  · have e := law12_MoveRound_l0s l false (by omega) (enL l) 0 rfl
    rw [Int.natCast_zero] at e
    rw [decide_eq_true hf]
    simp only [Bool.not_true, cond_false, law12_alive_s, Option.bind_some, cond_true, move_Enabled_en l (by omega), e, show Nat.beq 0 0 = true from rfl]
  · rw [decide_eq_false hf]
    simp only [Bool.not_false, cond_true, law12_alive_s, Option.bind_some]
/-- One move ahead of another. -/
def mvLt (p q : Mv) : Prop := p.1 < q.1 ∨ (p.1 = q.1 ∧ p.2 < q.2)
theorem mvsAt_in [Dfr] {kd x : Int} {f : Bool} : (∀ p ∈ mvsAt kd x f, p.1 = x) ∧ (mvsAt kd x f).Pairwise mvLt := by
  unfold mvsAt mvLt
  split
  · simp
  · split
    · simp
    · split <;> simp
theorem mvs_sorted [Dfr] (g : Nat → List Mv) (hg : ∀ k, (∀ p ∈ g k, p.1 = (k : Int)) ∧ (g k).Pairwise mvLt) : ∀ r : List Nat, r.Pairwise (· < ·) → (r.flatMap g).Pairwise mvLt
  | [], _ => List.Pairwise.nil
  | k :: r, h => by
    obtain ⟨h1, h2⟩ := List.pairwise_cons.1 h
    rw [List.flatMap_cons, List.pairwise_append]
    refine ⟨(hg k).2, mvs_sorted g hg r h2, fun p hp q hq => ?_⟩
    obtain ⟨j, hj, hq⟩ := List.mem_flatMap.1 hq
    have := h1 j hj
    rw [mvLt, (hg k).1 p hp, (hg j).1 q hq]
    exact .inl (by omega)
theorem wts_lt [Dfr] {l : List Nd} {t : T} (ht : tree l = some t) : (t.wts 0).Pairwise (· < ·) := by
  obtain ⟨hok, hrow⟩ := tree_iff.1 ht
  rw [wts_filter l t 0 [] (by rw [List.drop_zero, List.append_nil]; exact hrow)]
  exact List.Pairwise.filter _ List.pairwise_lt_range'
theorem en_sorted [Dfr] (l : List Nd) : (enL l).Pairwise mvLt := by
  by_cases hs : setL l
  · obtain ⟨m, _, _, _, _, _, _, ht⟩ := set_tree hs
    rw [enL_in ht hs]
    exact mvs_sorted _ (fun k => mvsAt_in) _ (wts_lt ht)
  · rw [enL_no hs]; exact List.Pairwise.nil
theorem law12_MoveMany_l0s [Dfr] (l : List Nd) (b : Bool) (xs : List Mv) (hx : xs.length ≤ 1000000) (hp : xs.Pairwise mvLt) : ∀ (r : List Mv) (i : Nat), xs.drop i = r → law12_MoveMany_l0 l b xs (xs.length : Int) (i : Int) = some (0, (l, b, xs))
  | [], i, h => by
    obtain ⟨h1, h2⟩ := drop_nil h
    rw [law12_MoveMany_l0_eq]
    simp only [h2, cond_false]
  | x :: r, i, h => by
    obtain ⟨h1, h2, h3, h4, h5, h6⟩ := drop_cons h
    have ih := law12_MoveMany_l0s l b xs hx hp r (i + 1) h5
    rw [law12_MoveMany_l0_eq]
    cases i with
    | zero =>
      simp only [h2, cond_true, show decide (((0 : Nat) : Int) > 0) = false from rfl, cond_false, w_succ (show 0 < 9223372036854775807 by omega), ih]
    | succ j =>
      have hw : w64 (((j + 1 : Nat) : Int) - 1) = (j : Int) := by rw [w64_id (by omega) (by omega)]; omega
      have hj : j < xs.length := by omega
      have g1 : ix xs (j : Int) = xs[j] := by rw [ix_nat hj]
      have g2 : x = xs[j + 1] := by rw [← h4, ix_nat h1]
      have hlt : mvLt xs[j] xs[j + 1] := List.pairwise_iff_getElem.1 hp j (j + 1) hj h1 (by omega)
      rw [← g2, ← g1] at hlt
      simp only [h2, h3, h4, hw, cond_true, decide_eq_true (show ((j + 1 : Nat) : Int) > 0 by omega), idxOk_nat hj, w_succ (show j + 1 < 9223372036854775807 by omega), ih]
      rcases hlt with hlt | ⟨he, hlt⟩
      · rw [decide_eq_false (show ¬ x.1 < (ix xs (j : Int)).1 by omega), show (x.1 == (ix xs (j : Int)).1) = false by rw [beq_eq_false_iff_ne]; omega]
        rfl
      · rw [decide_eq_false (show ¬ x.1 < (ix xs (j : Int)).1 by omega), show (x.1 == (ix xs (j : Int)).1) = true by rw [he]; simp, decide_eq_false (show ¬ x.2 ≤ (ix xs (j : Int)).2 by omega)]
        rfl
theorem law12_MoveMany_l2s [Dfr] (l : List Nd) (b : Bool) (all : List Mv) (xs : List Int) (hx : xs.length ≤ 1000000) (fr : Int → Bool) (hk : ∀ x ∈ xs, idxOk x l.length = true ∧ waitK (ix l x).1 = true ∧ doom_Free l x = some (fr x)) : ∀ (r : List Int) (i n : Nat), xs.drop i = r → n ≤ 2 * i →
    law12_MoveMany_l2 l b all (n : Int) xs (xs.length : Int) (i : Int) = some (0, (b, all, ((n + (r.flatMap fun x => mvsAt (ix l x).1 x (fr x)).length : Nat) : Int)))
  | [], i, n, h, hn => by
    obtain ⟨h1, h2⟩ := drop_nil h
    rw [law12_MoveMany_l2_eq]
    simp only [h2, cond_false]
    simp
  | x :: r, i, n, h, hn => by
    obtain ⟨h1, h2, h3, h4, h5, h6⟩ := drop_cons h
    obtain ⟨k1, k2, k3⟩ := hk x (List.mem_of_mem_drop (by rw [h]; exact List.mem_cons_self ..))
    have ih := fun n hn => law12_MoveMany_l2s l b all xs hx fr hk r (i + 1) n h5 hn
    obtain ⟨q1, q2⟩ := idxOk_iff k1
    have n1 : w64 ((n : Int) + 1) = ((n + 1 : Nat) : Int) := w_succ (by omega)
    have n2 : w64 (((n + 1 : Nat) : Int) + 1) = ((n + 2 : Nat) : Int) := w_succ (by omega)
    have hkk : (ix l x).1 = 1 ∨ (ix l x).1 = 6 ∨ (ix l x).1 = 4 ∨ (ix l x).1 = 10 := by
      unfold waitK at k2
      exact of_decide_eq_true k2
    rw [law12_MoveMany_l2_eq]
    simp only [h2, h3, h4, cond_true, k1, decide_eq_false (show ¬ x < 0 by omega), decide_eq_false (show ¬ x ≥ (l.length : Int) by omega), cond_false, n1, n2, k3, Option.bind_some, w_succ (show i < 9223372036854775807 by omega)]
    rw [List.flatMap_cons, List.length_append, ih (n + 2) (by omega), ih (n + 1) (by omega)]
    rcases hkk with hkk | hkk | hkk | hkk <;> cases hf : fr x <;> rw [hkk] <;> simp [mvsAt] <;> omega
theorem law12_MoveMany_true [Dfr] [HasOver] [HasWays] [HasText] (l : List Nd) (hl : wfRow l) : law12_MoveMany l = some true := by
  rw [law12_MoveMany_eq, law12_few_s, Option.bind_some]
  by_cases hf : l.length ≤ 100 ∧ dep l ≤ 24
  · have hL := enL_len l
    have e := law12_MoveMany_l0s l false (enL l) (by omega) (en_sorted l) (enL l) 0 rfl
    rw [Int.natCast_zero] at e
    rw [decide_eq_true hf]
    simp only [Bool.not_true, cond_false, law12_alive_s, Option.bind_some, cond_true, move_Enabled_en l (by omega), e, show Nat.beq 0 0 = true from rfl]
    by_cases hs : setL l
    · obtain ⟨m, _, _, _, _, _, _, ht⟩ := set_tree hs
      obtain ⟨hok, hrow⟩ := tree_iff.1 ht
      have hlen : l.length = m.t.size := by rw [hrow, T.len_row]
      have hw := wts_len' m.t
      have e2 := law12_MoveMany_l2s l false (enL l) ((m.t.wts 0).map fun (k : Nat) => (k : Int)) (by rw [List.length_map]; omega) (fun x => freeT m.t x.toNat) (fun x hx => by
        obtain ⟨k1, k2, _⟩ := wts_wk ht hx
        obtain ⟨k, hk, rfl⟩ := List.mem_map.1 hx
        exact ⟨k1, k2, doom_Free_in ht (by omega) hs hk⟩) _ 0 0 rfl (by omega)
      rw [Int.natCast_zero] at e2
      have hE : (enL l).length = (((m.t.wts 0).map fun (k : Nat) => (k : Int)).flatMap fun x => mvsAt (ix l x).1 x (freeT m.t x.toNat)).length := by
        rw [enL_in ht hs]
        unfold mvsT
        rw [List.flatMap_map, List.flatMap_def, List.flatMap_def]
        refine congrArg (fun q => (List.flatten q).length) (List.map_congr_left fun k hk => ?_)
        rw [(wts_wk ht (List.mem_map.2 ⟨k, hk, rfl⟩)).2.2]
        rfl
      rw [doom_Active_s ht (by omega) hs, Option.bind_some, e2]
      simp only [Option.bind_some, show Nat.beq 0 0 = true from rfl, cond_true]
      rw [List.drop_zero, ← hE, Nat.zero_add, beq_self_eq_true]
    · have e2 := law12_MoveMany_l2s l false (enL l) [] (by simp) (fun _ => false) (fun x hx => by cases hx) [] 0 0 rfl (by omega)
      rw [Int.natCast_zero] at e2
      rw [doom_Active_no (by omega) hs, Option.bind_some, e2, enL_no hs]
      rfl
  · rw [decide_eq_false hf]
    simp only [Bool.not_false, cond_true, law12_alive_s, Option.bind_some]
end Go.Proofs.YtgogodeknkoalaaGreatDoor.Sv
