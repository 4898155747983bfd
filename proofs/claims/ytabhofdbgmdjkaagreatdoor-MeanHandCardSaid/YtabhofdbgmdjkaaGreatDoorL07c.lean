/- The laws of meanings: what follows. -/
import Derived.Test.YtabhofdbgmdjkaaGreatDoorL07
import Derived.Test.YtabhofdbgmdjkaaGreatDoorM10
namespace Go.Proofs.YtabhofdbgmdjkaaGreatDoor.Sv
open Go Go.Sv Go.Rd
set_option linter.unusedVariables false
set_option linter.unusedSimpArgs false
theorem law07_plain_s [Dfr] [HasMix] (l : List Nd) (hl : l.length ≤ 4611686018427387904) : law07_plain l = some ((plainR l).1, ((plainR l).2 == 0)) := by
  rw [law07_plain_eq, mean_Plain_s l hl]; rfl
theorem law07_same_s [Dfr] (x y : List Tc) (hx : fewT x ∧ x.length ≤ 400000000) (hy : fewT y ∧ y.length ≤ 400000000) : law07_same x y = some (decide (x = y)) := by
  rw [law07_same_eq, law02_Olds_s x (by omega), law02_Olds_s y (by omega)]
  simp only [Option.bind_some, ref02_Same_s x y (by omega) hx.1.short hy.1.short]
theorem plainR_ok [Dfr] (l : List Nd) : fewT (plainR l).1 ∧ (plainR l).1.length ≤ 400000000 := ⟨(plainR_few l).1, (plainR_few l).2.1⟩
theorem term_of [Dfr] {l : List Nd} (h : sOf l = 1) : ∃ m : Tm, l = m.row ∧ m.fine ∧ m.size ≤ 200 ∧ m.pl = true := by
  obtain ⟨m, h1, h2, h3, h4⟩ := sOf_pos (l := l) (by rw [h]; decide)
  exact ⟨m, h1, h2, h3, by rw [Tm.so_pl, ← h4]; exact decide_eq_true h⟩
theorem plainR_pl [Dfr] {m : Tm} (hf : m.fine) (hz : m.size ≤ 200) (hp : m.pl = true) : plainR m.row = if m.size ≤ 24 ∧ m.nm.length ≤ 6 then (m.tr, 0) else ([], 70) := by
  unfold plainR
  rw [sOf_row hf hz, if_pos (of_decide_eq_true ((Tm.so_po m).symm.trans (Tm.po_of_pl hp))), trL_row hf hz]
  by_cases h : m.size ≤ 24 ∧ m.nm.length ≤ 6
  · rw [if_pos h, if_pos (smallR_row.2 h)]
  · rw [if_neg h, if_neg (fun h' => h (smallR_row.1 h'))]
/-! ### three of them -/
/-- Two, by a kind. -/
def mk2 (k : Int) (a b : Tm) : Tm := if k = 5 then .seq a b else if k = 6 then .alt a b else if k = 7 then .par a b else .hand a b
theorem mk2_row [Dfr] {k : Int} (hk : k = 5 ∨ k = 6 ∨ k = 7 ∨ k = 8) (a b : Tm) : (mk2 k a b).row = (k, ByteArray.empty, 0) :: (a.row ++ b.row) := by
  rcases hk with rfl | rfl | rfl | rfl <;> rfl
theorem mk2_size [Dfr] (k : Int) (a b : Tm) : (mk2 k a b).size = a.size + b.size + 1 := by
  unfold mk2
  split
  · rfl
  · split
    · rfl
    · split <;> rfl
theorem mk2_nm [Dfr] (k : Int) (a b : Tm) : (mk2 k a b).nm = a.nm ++ b.nm := by
  unfold mk2
  split
  · rfl
  · split
    · rfl
    · split <;> rfl
theorem mk2_pl [Dfr] {k : Int} {a b : Tm} (ha : a.pl = true) (hb : b.pl = true) : (mk2 k a b).pl = true := by
  have h : (a.pl && b.pl) = true := by rw [ha, hb]; rfl
  unfold mk2
  split
  · exact h
  · split
    · exact h
    · split <;> exact h
theorem mk2_fine [Dfr] {k : Int} {a b : Tm} (ha : a.fine) (hb : b.fine) : (mk2 k a b).fine := by
  unfold mk2
  split
  · exact ⟨ha, hb⟩
  · split
    · exact ⟨ha, hb⟩
    · split <;> exact ⟨ha, hb⟩
theorem mk2_three [Dfr] {k : Int} (hk : k = 5 ∨ k = 6 ∨ k = 7 ∨ k = 8) (a b c : Tm) : (mk2 k (mk2 k a b) c).tr = (mk2 k a (mk2 k b c)).tr := by
  rcases hk with rfl | rfl | rfl | rfl
  · exact Tm.tr_seq3 a b c
  · exact Tm.tr_alt3 a b c
  · exact Tm.tr_par3 a b c
  · exact Tm.tr_hand3 a b c
theorem make_mk2 [Dfr] {k : Int} (hk : k = 5 ∨ k = 6 ∨ k = 7 ∨ k = 8) (a b : Tm) (ha : a.size ≤ 100000) (hb : b.size ≤ 100000) : row_Make (k, ByteArray.empty, 0) [a.row, b.row] = some (mk2 k a b).row := by
  rw [row_Make2 _ _ _ (by rw [Tm.len_row]; exact ha) (by rw [Tm.len_row]; exact hb), mk2_row hk]
theorem plainR_eq [Dfr] {m n : Tm} (hm : m.fine) (hn : n.fine) (zm : m.size ≤ 200) (pm : m.pl = true) (pn : n.pl = true) (hs : n.size = m.size) (hl : n.nm.length = m.nm.length) (ht : m.tr = n.tr) : plainR m.row = plainR n.row := by
  rw [plainR_pl hm zm pm, plainR_pl hn (by omega) pn, hs, hl, ht]
theorem law07_MeanThree_l0s [Dfr] [HasMix] (a b c : Tm) (ha : a.fine) (hb : b.fine) (hc : c.fine) (pa : a.pl = true) (pb : b.pl = true) (pc : c.pl = true) (hz : a.size + b.size + c.size ≤ 22) (z : Bool) (xs : List Int) (hx : xs.length ≤ 1000) (hk : ∀ k ∈ xs, k = 5 ∨ k = 6 ∨ k = 7 ∨ k = 8) : ∀ (r : List Int) (i : Nat), xs.drop i = r → law07_MeanThree_l0 a.row b.row c.row z xs (xs.length : Int) (i : Int) = some (0, z)
  | [], i, h => by
    obtain ⟨h1, h2⟩ := drop_nil h
    rw [law07_MeanThree_l0_eq]
    simp only [h2, cond_false]
  | k :: r, i, h => by
    obtain ⟨h1, h2, h3, h4, h5, h6⟩ := drop_cons h
    have hkk := hk k (List.mem_of_mem_drop (by rw [h]; exact List.mem_cons_self ..))
    have ih := law07_MeanThree_l0s a b c ha hb hc pa pb pc hz z xs hx hk r (i + 1) h5
    have m1 := make_mk2 hkk a b (by omega) (by omega)
    have m2 := make_mk2 hkk (mk2 k a b) c (by rw [mk2_size]; omega) (by omega)
    have m3 := make_mk2 hkk b c (by omega) (by omega)
    have m4 := make_mk2 hkk a (mk2 k b c) (by omega) (by rw [mk2_size]; omega)
    have m5 := make_mk2 hkk b a (by omega) (by omega)
    have e1 : plainR (mk2 k (mk2 k a b) c).row = plainR (mk2 k a (mk2 k b c)).row :=
      plainR_eq (mk2_fine (mk2_fine ha hb) hc) (mk2_fine ha (mk2_fine hb hc)) (by rw [mk2_size, mk2_size]; omega) (mk2_pl (mk2_pl pa pb) pc) (mk2_pl pa (mk2_pl pb pc)) (by simp only [mk2_size]; omega) (by simp only [mk2_nm, List.length_append]; omega) (mk2_three hkk a b c)
    have e2 : (plainR (mk2 k a b).row).2 = (plainR (mk2 k b a).row).2 := by
      rw [plainR_pl (mk2_fine ha hb) (by rw [mk2_size]; omega) (mk2_pl pa pb), plainR_pl (mk2_fine hb ha) (by rw [mk2_size]; omega) (mk2_pl pb pa), mk2_size, mk2_size, mk2_nm, mk2_nm, List.length_append, List.length_append, Nat.add_comm a.size, Nat.add_comm a.nm.length]
      split <;> rfl
    have e3 : k = 6 ∨ k = 7 → (plainR (mk2 k a b).row).1 = (plainR (mk2 k b a).row).1 := fun h67 => by
      refine congrArg Prod.fst (plainR_eq (mk2_fine ha hb) (mk2_fine hb ha) (by rw [mk2_size]; omega) (mk2_pl pa pb) (mk2_pl pb pa) (by simp only [mk2_size]; omega) (by simp only [mk2_nm, List.length_append]; omega) ?_)
      rcases h67 with rfl | rfl
      · exact Tm.tr_alt2 a b
      · exact Tm.tr_par2 a b
    have p1 := law07_plain_s (mk2 k (mk2 k a b) c).row (by rw [Tm.len_row, mk2_size, mk2_size]; omega)
    have p2 := law07_plain_s (mk2 k a (mk2 k b c)).row (by rw [Tm.len_row, mk2_size, mk2_size]; omega)
    have p3 := law07_plain_s (mk2 k a b).row (by rw [Tm.len_row, mk2_size]; omega)
    have p4 := law07_plain_s (mk2 k b a).row (by rw [Tm.len_row, mk2_size]; omega)
    have q1 : law07_same (plainR (mk2 k a (mk2 k b c)).row).1 (plainR (mk2 k a (mk2 k b c)).row).1 = some true := by
      rw [law07_same_s _ _ (plainR_ok _) (plainR_ok _), decide_eq_true rfl]
    rw [e1] at p1
    have q2 : k = 6 ∨ k = 7 → law07_same (plainR (mk2 k a b).row).1 (plainR (mk2 k b a).row).1 = some true := fun h67 => by
      rw [e3 h67, law07_same_s _ _ (plainR_ok _) (plainR_ok _), decide_eq_true rfl]
    rw [law07_MeanThree_l0_eq]
    simp only [h2, h3, h4, cond_true, m1, m2, m3, m4, m5, p1, p2, p3, p4, Option.bind_some, beq_self_eq_true, Bool.not_true, cond_false, q1, e2, w_succ (show i < 9223372036854775807 by omega), ih]
    rcases hkk with rfl | rfl | rfl | rfl
    · rfl
    · rw [q2 (.inl rfl)]; rfl
    · rw [q2 (.inr rfl)]; rfl
    · rfl
theorem law07_MeanThree_true [Dfr] [HasMix] (a b c : List Nd) (ha : wfRow a) (hb : wfRow b) (hc : wfRow c) : law07_MeanThree a b c = some true := by
  rw [law07_MeanThree_eq]
  simp only [law07_few_s, law07_alive_s, Option.bind_some]
  by_cases f1 : a.length ≤ 120 ∧ dep a ≤ 24
  · by_cases f2 : b.length ≤ 120 ∧ dep b ≤ 24
    · by_cases f3 : c.length ≤ 120 ∧ dep c ≤ 24
      · rw [decide_eq_true f1, decide_eq_true f2, decide_eq_true f3]
        simp only [Bool.not_true, cond_false, sort_Term_s a (by omega), sort_Term_s b (by omega), sort_Term_s c (by omega), Option.bind_some]
        by_cases t1 : sOf a = 1
        · by_cases t2 : sOf b = 1
          · by_cases t3 : sOf c = 1
            · rw [decide_eq_true t1, decide_eq_true t2, decide_eq_true t3]
              simp only [Bool.not_true, cond_false]
              rw [w64_id (n := (a.length : Int) + (b.length : Int)) (by omega) (by omega), w64_id (by omega) (by omega)]
              by_cases h22 : (a.length : Int) + (b.length : Int) + (c.length : Int) > 22
              · rw [decide_eq_true h22]; rfl
              · rw [decide_eq_false h22]
                obtain ⟨ma, rfl, fa, za, pa⟩ := term_of t1
                obtain ⟨mb, rfl, fb, zb, pb⟩ := term_of t2
                obtain ⟨mc, rfl, fc, zc, pc⟩ := term_of t3
                simp only [Tm.len_row] at h22
                have e := law07_MeanThree_l0s ma mb mc fa fb fc pa pb pc (by omega) false [5, 6, 7, 8] (by simp) (fun k hk => by simpa using hk) _ 0 rfl
                rw [Int.natCast_zero] at e
                rw [show ((([5, 6, 7, 8] : List Int).length : Nat) : Int) = 4 from rfl] at e
                rw [e]; rfl
            · rw [decide_eq_true t1, decide_eq_true t2, decide_eq_false t3]; rfl
          · rw [decide_eq_true t1, decide_eq_false t2]; rfl
        · rw [decide_eq_false t1]; rfl
      · rw [decide_eq_true f1, decide_eq_true f2, decide_eq_false f3]; rfl
    · rw [decide_eq_true f1, decide_eq_false f2]; rfl
  · rw [decide_eq_false f1]; rfl
theorem law07_MeanHand_true [Dfr] [HasMix] (a b c : List Nd) (ha : wfRow a) (hb : wfRow b) (hc : wfRow c) : law07_MeanHand a b c = some true := by
  rw [law07_MeanHand_eq]
  simp only [law07_few_s, law07_alive_s, Option.bind_some]
  by_cases f1 : a.length ≤ 120 ∧ dep a ≤ 24
  · by_cases f2 : b.length ≤ 120 ∧ dep b ≤ 24
    · by_cases f3 : c.length ≤ 120 ∧ dep c ≤ 24
      · rw [decide_eq_true f1, decide_eq_true f2, decide_eq_true f3]
        simp only [Bool.not_true, cond_false, sort_Term_s a (by omega), sort_Term_s b (by omega), sort_Term_s c (by omega), Option.bind_some]
        by_cases t1 : sOf a = 1
        · by_cases t2 : sOf b = 1
          · by_cases t3 : sOf c = 1
            · rw [decide_eq_true t1, decide_eq_true t2, decide_eq_true t3]
              simp only [Bool.not_true, cond_false]
              rw [w64_id (n := (a.length : Int) + (b.length : Int)) (by omega) (by omega), w64_id (by omega) (by omega)]
              by_cases h22 : (a.length : Int) + (b.length : Int) + (c.length : Int) > 22
              · rw [decide_eq_true h22]; rfl
              · rw [decide_eq_false h22]
                obtain ⟨ma, rfl, fa, za, pa⟩ := term_of t1
                obtain ⟨mb, rfl, fb, zb, pb⟩ := term_of t2
                obtain ⟨mc, rfl, fc, zc, pc⟩ := term_of t3
                simp only [Tm.len_row] at h22
                have h8 : (8 : Int) = 5 ∨ (8 : Int) = 6 ∨ (8 : Int) = 7 ∨ (8 : Int) = 8 := by decide
                have m1 := make_mk2 h8 ma mb (by omega) (by omega)
                have m2 := make_mk2 h8 (mk2 8 ma mb) mc (by rw [mk2_size]; omega) (by omega)
                have m3 := make_mk2 h8 mb mc (by omega) (by omega)
                have m4 := make_mk2 h8 ma (mk2 8 mb mc) (by omega) (by rw [mk2_size]; omega)
                have m5 := make_mk2 h8 ma .throw (by omega) (by decide)
                rw [show Tm.throw.row = ([(3, ByteArray.empty, 0)] : List Nd) from rfl] at m5
                have e1 : plainR (mk2 8 (mk2 8 ma mb) mc).row = plainR (mk2 8 ma (mk2 8 mb mc)).row :=
                  plainR_eq (mk2_fine (mk2_fine fa fb) fc) (mk2_fine fa (mk2_fine fb fc)) (by rw [mk2_size, mk2_size]; omega) (mk2_pl (mk2_pl pa pb) pc) (mk2_pl pa (mk2_pl pb pc)) (by simp only [mk2_size]; omega) (by simp only [mk2_nm, List.length_append]; omega) (mk2_three h8 ma mb mc)
                have hmb := Tm.size_pos mb
                have hmc := Tm.size_pos mc
                have e2 : plainR (mk2 8 ma .throw).row = plainR ma.row := by
                  rw [plainR_pl (m := mk2 8 ma .throw) (mk2_fine (b := .throw) fa trivial) (by rw [mk2_size, Tm.size_throw]; omega) (mk2_pl (b := .throw) pa rfl), plainR_pl fa za pa, mk2_size, mk2_nm, Tm.size_throw, List.length_append, show (mk2 8 ma .throw).tr = ma.tr from Tm.tr_hand_throw ma, show Tm.throw.nm.length = 0 from rfl]
                  have : (ma.size + 1 + 1 ≤ 24 ∧ ma.nm.length + 0 ≤ 6) ↔ (ma.size ≤ 24 ∧ ma.nm.length ≤ 6) := by omega
                  by_cases h : ma.size ≤ 24 ∧ ma.nm.length ≤ 6
                  · rw [if_pos h, if_pos (this.2 h)]
                  · rw [if_neg h, if_neg (fun h' => h (this.1 h'))]
                have p1 := law07_plain_s (mk2 8 (mk2 8 ma mb) mc).row (by rw [Tm.len_row, mk2_size, mk2_size]; omega)
                have p2 := law07_plain_s (mk2 8 ma (mk2 8 mb mc)).row (by rw [Tm.len_row, mk2_size, mk2_size]; omega)
                have p3 := law07_plain_s (mk2 8 ma .throw).row (by rw [Tm.len_row, mk2_size, Tm.size_throw]; omega)
                have p4 := law07_plain_s ma.row (by rw [Tm.len_row]; omega)
                rw [e1] at p1
                rw [e2] at p3
                have q1 : ∀ l, law07_same (plainR l).1 (plainR l).1 = some true := fun l => by
                  rw [law07_same_s _ _ (plainR_ok _) (plainR_ok _), decide_eq_true rfl]
                simp only [cond_false, m1, m2, m3, m4, m5, p1, p2, p3, p4, Option.bind_some, cond_true, beq_self_eq_true, q1]
            · rw [decide_eq_true t1, decide_eq_true t2, decide_eq_false t3]; rfl
          · rw [decide_eq_true t1, decide_eq_false t2]; rfl
        · rw [decide_eq_false t1]; rfl
      · rw [decide_eq_true f1, decide_eq_true f2, decide_eq_false f3]; rfl
    · rw [decide_eq_true f1, decide_eq_false f2]; rfl
  · rw [decide_eq_false f1]; rfl
/-! ### units -/
theorem law07_MeanUnits_l0s [Dfr] [HasMix] (a : List Nd) (t : List Tc) (ht : fewT t ∧ t.length ≤ 400000000) (y : List Nd) (z : Bool) (xs : List (List Nd)) (hx : xs.length ≤ 1000) (hk : ∀ l ∈ xs, ∃ m : Tm, l = m.row ∧ m.fine ∧ m.size ≤ 200 ∧ m.pl = true ∧ m.tr = t) : ∀ (r : List (List Nd)) (i : Nat), xs.drop i = r → law07_MeanUnits_l0 a z t y xs (xs.length : Int) (i : Int) = some (0, (a, z, y))
  | [], i, h => by
    obtain ⟨h1, h2⟩ := drop_nil h
    rw [law07_MeanUnits_l0_eq]
    simp only [h2, cond_false]
  | l :: r, i, h => by
    obtain ⟨h1, h2, h3, h4, h5, h6⟩ := drop_cons h
    have ih := law07_MeanUnits_l0s a t ht y z xs hx hk r (i + 1) h5
    obtain ⟨m, rfl, fm, zm, pm, tm⟩ := hk l (List.mem_of_mem_drop (by rw [h]; exact List.mem_cons_self ..))
    rw [law07_MeanUnits_l0_eq]
    simp only [h2, h3, h4, cond_true, w_succ (show i < 9223372036854775807 by omega), ih]
    by_cases h24 : m.row.length ≤ 24
    · rw [decide_eq_false (show ¬ (m.row.length : Int) > 24 by omega)]
      simp only [cond_false, row_Count_s m.row [1] (by omega) (by simp), Option.bind_some, ← Tm.nm_row]
      by_cases h6 : m.nm.length ≤ 6
      · rw [decide_eq_false (show ¬ (m.nm.length : Int) > 6 by omega), law07_plain_s m.row (by omega), plainR_pl fm zm pm, if_pos ⟨by rw [← Tm.len_row]; exact h24, h6⟩, tm]
        simp only [cond_false, Option.bind_some, beq_self_eq_true, Bool.not_true, law07_same_s t t ht ht, decide_true]
      · rw [decide_eq_true (show (m.nm.length : Int) > 6 by omega)]; rfl
    · rw [decide_eq_true (show (m.row.length : Int) > 24 by omega)]; rfl
theorem law07_MeanUnits_true [Dfr] [HasMix] (a : List Nd) (ha : wfRow a) : law07_MeanUnits a = some true := by
  rw [law07_MeanUnits_eq]
  simp only [law07_few_s, law07_alive_s, Option.bind_some]
  by_cases f1 : a.length ≤ 120 ∧ dep a ≤ 24
  · rw [decide_eq_true f1]
    simp only [Bool.not_true, cond_false, sort_Term_s a (by omega), Option.bind_some]
    by_cases t1 : sOf a = 1
    · rw [decide_eq_true t1]
      simp only [Bool.not_true, cond_false]
      by_cases h22 : (a.length : Int) > 22
      · rw [decide_eq_true h22]; rfl
      · rw [decide_eq_false h22]
        obtain ⟨m, rfl, fm, zm, pm⟩ := term_of t1
        have hlen : m.row.length = m.size := Tm.len_row m
        rw [law07_plain_s m.row (by omega), plainR_pl fm zm pm]
        simp only [cond_false, Option.bind_some]
        by_cases hs : m.size ≤ 24 ∧ m.nm.length ≤ 6
        · rw [if_pos hs]
          have hsm : m.small := hs
          have hne := Tm.tr_ne pm
          have r1 := row_Make2 (5, ByteArray.empty, 0) [(2, ByteArray.empty, 0)] m.row (by simp) (by omega)
          have r2 := row_Make2 (5, ByteArray.empty, 0) m.row [(2, ByteArray.empty, 0)] (by omega) (by simp)
          have r3 := row_Make2 (7, ByteArray.empty, 0) m.row [(2, ByteArray.empty, 0)] (by omega) (by simp)
          have r4 := row_Make2 (7, ByteArray.empty, 0) [(2, ByteArray.empty, 0)] m.row (by simp) (by omega)
          have r5 := row_Make2 (6, ByteArray.empty, 0) m.row m.row (by omega) (by omega)
          have r6 := row_Make2 (8, ByteArray.empty, 0) [(3, ByteArray.empty, 0)] m.row (by simp) (by omega)
          have r7 := row_Make2 (5, ByteArray.empty, 0) [(3, ByteArray.empty, 0)] m.row (by simp) (by omega)
          have hk : ∀ l ∈ [(Tm.seq .skip m).row, (Tm.seq m .skip).row, (Tm.par m .skip).row, (Tm.par .skip m).row, (Tm.alt m m).row, (Tm.hand .throw m).row], ∃ n : Tm, l = n.row ∧ n.fine ∧ n.size ≤ 200 ∧ n.pl = true ∧ n.tr = m.tr := fun l hl => by
            simp only [List.mem_cons, List.not_mem_nil, or_false] at hl
            rcases hl with rfl | rfl | rfl | rfl | rfl | rfl
            · exact ⟨_, rfl, ⟨trivial, fm⟩, by rw [Tm.size_seq, Tm.size_skip]; omega, pm, Tm.tr_skip_seq m⟩
            · exact ⟨_, rfl, ⟨fm, trivial⟩, by rw [Tm.size_seq, Tm.size_skip]; omega, by rw [Tm.pl, pm]; rfl, Tm.tr_seq_skip m⟩
            · exact ⟨_, rfl, ⟨fm, trivial⟩, by rw [Tm.size_par, Tm.size_skip]; omega, by rw [Tm.pl, pm]; rfl, Tm.tr_par_skip fm⟩
            · exact ⟨_, rfl, ⟨trivial, fm⟩, by rw [Tm.size_par, Tm.size_skip]; omega, pm, by rw [Tm.tr_par2]; exact Tm.tr_par_skip fm⟩
            · exact ⟨_, rfl, ⟨fm, fm⟩, by rw [Tm.size_alt]; omega, by rw [Tm.pl, pm]; rfl, Tm.tr_alt1 m⟩
            · exact ⟨_, rfl, ⟨trivial, fm⟩, by rw [Tm.size_hand, Tm.size_throw]; omega, pm, Tm.tr_throw_hand m⟩
          have e := law07_MeanUnits_l0s m.row m.tr ⟨fun x hx => by have := sm_short hsm x hx; omega, (sm_len hsm).1⟩ [(3, ByteArray.empty, 0)] false _ (by simp) hk _ 0 rfl
          rw [Int.natCast_zero] at e
          have e' : law07_MeanUnits_l0 m.row false m.tr [(3, ByteArray.empty, 0)] [(5, ByteArray.empty, 0) :: ([(2, ByteArray.empty, 0)] ++ m.row), (5, ByteArray.empty, 0) :: (m.row ++ [(2, ByteArray.empty, 0)]), (7, ByteArray.empty, 0) :: (m.row ++ [(2, ByteArray.empty, 0)]), (7, ByteArray.empty, 0) :: ([(2, ByteArray.empty, 0)] ++ m.row), (6, ByteArray.empty, 0) :: (m.row ++ m.row), (8, ByteArray.empty, 0) :: ([(3, ByteArray.empty, 0)] ++ m.row)] 6 0 = some (0, (m.row, false, [(3, ByteArray.empty, 0)])) := e
          simp only [beq_self_eq_true, Bool.not_true, cond_false, r1, r2, r3, r4, r5, r6, Option.bind_some, e', show Nat.beq 0 0 = true from rfl, cond_true, r7]
          have e7 : ((5, ByteArray.empty, 0) :: ([(3, ByteArray.empty, 0)] ++ m.row) : List Nd) = (Tm.seq .throw m).row := rfl
          rw [e7, law07_plain_s _ (by rw [Tm.len_row, Tm.size_seq, Tm.size_throw]; omega), plainR_pl (m := .seq .throw m) ⟨trivial, fm⟩ (by rw [Tm.size_seq, Tm.size_throw]; omega) pm, if_pos ⟨by rw [Tm.size_seq, Tm.size_throw]; omega, hs.2⟩, Tm.tr_throw_seq hne]
          have ht : trace_Text (([], 2) : Tc) = some ⟨#[33]⟩ := ((trace_Text_lim _).iff _).2 ⟨9, by kernel_rfl⟩
          have hi : ix [(([], 2) : Tc)] 0 = ([], 2) := rfl
          simp only [Option.bind_some, hi, ht, str_eq]
          rfl
        · rw [if_neg hs]; rfl
    · rw [decide_eq_false t1]; rfl
  · rw [decide_eq_false f1]; rfl
/-! ### blocks -/
theorem law07_MeanBlocks_l0s [Dfr] (y t : List Tc) (ht : t.length ≤ 1000000000) : ∀ (r : List Tc) (i : Nat) (acc : List Tc), t.drop i = r → acc.length ≤ i → law07_MeanBlocks_l0 y acc t (t.length : Int) (i : Int) = some (0, (y, acc ++ (r.filter fun p => decide (p.2 ≠ 3)).map fun p => (p.1, 1)))
  | [], i, acc, h, ha => by
    obtain ⟨h1, h2⟩ := drop_nil h
    rw [law07_MeanBlocks_l0_eq]
    simp only [h2, cond_false, List.filter_nil, List.map_nil, List.append_nil]
  | x :: r, i, acc, h, ha => by
    obtain ⟨h1, h2, h3, h4, h5, h6⟩ := drop_cons h
    rw [law07_MeanBlocks_l0_eq]
    simp only [h2, h3, h4, cond_true, room (show (acc.length + 1) * 32 ≤ 140737488355328 by omega), w_succ (show i < 9223372036854775807 by omega)]
    by_cases e : x.2 = 3
    · rw [show (x.2 != 3) = false by simp [e], cond_false, law07_MeanBlocks_l0s y t ht r (i + 1) acc h5 (by omega), List.filter_cons_of_neg (by simp [e])]
    · rw [show (x.2 != 3) = true by simpa using e, cond_true, law07_MeanBlocks_l0s y t ht r (i + 1) _ h5 (by simp; omega), List.filter_cons_of_pos (by simpa using e), List.append_assoc]
      rfl
theorem law07_MeanBlocks_true [Dfr] [HasMix] (a b : List Nd) (ha : wfRow a) (hb : wfRow b) : law07_MeanBlocks a b = some true := by
  rw [law07_MeanBlocks_eq]
  simp only [law07_few_s, law07_alive_s, Option.bind_some]
  by_cases f1 : a.length ≤ 120 ∧ dep a ≤ 24
  · by_cases f2 : b.length ≤ 120 ∧ dep b ≤ 24
    · rw [decide_eq_true f1, decide_eq_true f2]
      simp only [Bool.not_true, cond_false, sort_Term_s a (by omega), sort_Term_s b (by omega), Option.bind_some]
      by_cases t1 : sOf a = 1
      · by_cases t2 : sOf b = 1
        · rw [decide_eq_true t1, decide_eq_true t2]
          simp only [Bool.not_true, cond_false]
          rw [w64_id (n := (a.length : Int) + (b.length : Int)) (by omega) (by omega)]
          by_cases h22 : (a.length : Int) + (b.length : Int) > 22
          · rw [decide_eq_true h22]; rfl
          · rw [decide_eq_false h22]
            obtain ⟨ma, rfl, fa, za, pa⟩ := term_of t1
            obtain ⟨mb, rfl, fb, zb, pb⟩ := term_of t2
            have la : ma.row.length = ma.size := Tm.len_row ma
            have lb : mb.row.length = mb.size := Tm.len_row mb
            have ca := row_Count_s ma.row [1] (by omega) (by simp)
            have cb := row_Count_s mb.row [1] (by omega) (by simp)
            rw [← Tm.nm_row] at ca cb
            simp only [cond_false, ca, cb, Option.bind_some]
            have na : ma.nm.length ≤ ma.size := by rw [Tm.nm_row, ← la]; exact List.countP_le_length
            have nb : mb.nm.length ≤ mb.size := by rw [Tm.nm_row, ← lb]; exact List.countP_le_length
            rw [w64_id (n := (ma.nm.length : Int) + (mb.nm.length : Int)) (by omega) (by omega)]
            by_cases h6 : (ma.nm.length : Int) + (mb.nm.length : Int) > 6
            · rw [decide_eq_true h6]; rfl
            · rw [decide_eq_false h6]
              have hsa : ma.small := ⟨by omega, by omega⟩
              have hsb : (Tm.block (.pair ma mb)).small := ⟨by rw [Tm.size_block, Tm.size_pair]; omega, by rw [Tm.nm, Tm.nm, List.length_append]; omega⟩
              have hpl : (Tm.block (.pair ma mb)).pl = true := by rw [Tm.pl, Tm.pa, pa, pb]; rfl
              have r1 := row_Make2 (10, ByteArray.empty, 0) ma.row mb.row (by omega) (by omega)
              have r2 := row_Make1 (9, ByteArray.empty, 0) (Tm.pair ma mb).row (by rw [Tm.len_row, Tm.size_pair]; omega)
              have e1 : ((10, ByteArray.empty, 0) :: (ma.row ++ mb.row) : List Nd) = (Tm.pair ma mb).row := rfl
              have e2 : ((9, ByteArray.empty, 0) :: (Tm.pair ma mb).row : List Nd) = (Tm.block (.pair ma mb)).row := rfl
              rw [e1] at r1
              rw [e2] at r2
              have hl := (sm_len hsa).1
              have e := law07_MeanBlocks_l0s (Tm.block (.pair ma mb)).tr ma.tr (by omega) ma.tr 0 [] rfl (by simp)
              rw [Int.natCast_zero] at e
              have hfew : fewT ((ma.tr.filter fun p => decide (p.2 ≠ 3)).map fun p => (p.1, 1)) := fun x hx => by
                obtain ⟨p, hp, rfl⟩ := List.mem_map.1 hx
                have := sm_short hsa p (List.mem_filter.1 hp).1
                show p.1.length ≤ 12
                omega
              have hlen : ((ma.tr.filter fun p => decide (p.2 ≠ 3)).map fun p => (p.1, (1 : Int))).length ≤ 400000000 := by
                rw [List.length_map]
                exact Nat.le_trans (List.length_filter_le _ _) hl
              have es := trace_Set_s _ (show _ ≤ 1000000000 by omega) hfew.short
              rw [← Tm.tr_block_pair fa (Tm.tr_ne pb)] at es
              have hbok : fewT (Tm.block (.pair ma mb)).tr ∧ (Tm.block (.pair ma mb)).tr.length ≤ 400000000 := ⟨fun x hx => by have := sm_short hsb x hx; omega, (sm_len hsb).1⟩
              simp only [cond_false, law07_plain_s ma.row (by omega), plainR_pl fa za pa, if_pos (show ma.size ≤ 24 ∧ ma.nm.length ≤ 6 from hsa), Option.bind_some, r1, r2, law07_plain_s (Tm.block (.pair ma mb)).row (by rw [Tm.len_row]; have := hsb.1; omega),
                plainR_pl (m := .block (.pair ma mb)) ⟨fa, fb⟩ (by have := hsb.1; omega) hpl, if_pos (show (Tm.block (.pair ma mb)).size ≤ 24 ∧ (Tm.block (.pair ma mb)).nm.length ≤ 6 from hsb), beq_self_eq_true, Bool.not_true, e, List.nil_append, cond_true, es, law07_same_s _ _ hbok hbok, decide_true]
        · rw [decide_eq_true t1, decide_eq_false t2]; rfl
      · rw [decide_eq_false t1]; rfl
    · rw [decide_eq_true f1, decide_eq_false f2]; rfl
  · rw [decide_eq_false f1]; rfl
/-! ### of which actions -/
theorem law07_MeanSome_l4s [Dfr] (y0 : List Nd) (y2 : Bool) (y3 : List Tc) (y6 : Tc) (s : ByteArray) (y32 : List Tc) (y33 y34 : Int) (y47 : List ByteArray) (y48 y49 : Int) (xs : List ByteArray) (hx : xs.length ≤ 1000000) : ∀ (r : List ByteArray) (i n : Nat), xs.drop i = r → n ≤ i →
    law07_MeanSome_l4 y0 y2 y3 y6 s (n : Int) y32 y33 y34 y47 y48 y49 xs (xs.length : Int) (i : Int) = some (0, (y0, y2, y3, y6, s, ((n + r.countP (fun y => decide (s = y)) : Nat) : Int), y32, y33, y34, y47, y48, y49))
  | [], i, n, h, hn => by
    obtain ⟨h1, h2⟩ := drop_nil h
    rw [law07_MeanSome_l4_eq]
    simp only [h2, cond_false]
    rfl
  | x :: r, i, n, h, hn => by
    obtain ⟨h1, h2, h3, h4, h5, h6⟩ := drop_cons h
    rw [law07_MeanSome_l4_eq]
    simp only [h2, h3, h4, cond_true, str_eq, w_succ (show i < 9223372036854775807 by omega), w_succ (show n < 9223372036854775807 by omega)]
    by_cases e : s = x
    · rw [decide_eq_true e, cond_true, law07_MeanSome_l4s y0 y2 y3 y6 s y32 y33 y34 y47 y48 y49 xs hx r (i + 1) (n + 1) h5 (by omega), List.countP_cons_of_pos (by simpa using e)]
      congr 8; omega
    · rw [decide_eq_false e, cond_false, law07_MeanSome_l4s y0 y2 y3 y6 s y32 y33 y34 y47 y48 y49 xs hx r (i + 1) n h5 (by omega), List.countP_cons_of_neg (by simpa using e)]
theorem law07_MeanSome_l6s [Dfr] (y0 : List Nd) (y2 : Bool) (y3 : List Tc) (y6 : Tc) (s : ByteArray) (y32 : List Tc) (y33 y34 : Int) (y47 : List ByteArray) (y48 y49 : Int) (xs : List Nd) (hx : xs.length ≤ 1000000) : ∀ (r : List Nd) (i : Nat) (n : Int), xs.drop i = r → -(i : Int) ≤ n → n ≤ 1000000 →
    law07_MeanSome_l6 y0 y2 y3 y6 s n y32 y33 y34 y47 y48 y49 xs (xs.length : Int) (i : Int) = some (0, (y0, y2, y3, y6, n - ((r.countP (fun y => decide (y = (1, s, 0))) : Nat) : Int), y32, y33, y34, y47, y48, y49))
  | [], i, n, h, hn, hn2 => by
    obtain ⟨h1, h2⟩ := drop_nil h
    rw [law07_MeanSome_l6_eq]
    simp only [h2, cond_false]
    rw [show ((([] : List Nd).countP (fun y => decide (y = (1, s, 0))) : Nat) : Int) = 0 from rfl, Int.sub_zero]
  | x :: r, i, n, h, hn, hn2 => by
    obtain ⟨h1, h2, h3, h4, h5, h6⟩ := drop_cons h
    have hw : w64 (n - 1) = n - 1 := w64_id (by omega) (by omega)
    rw [law07_MeanSome_l6_eq]
    simp only [h2, h3, h4, cond_true, law07_act_eq, Option.bind_some, w_succ (show i < 9223372036854775807 by omega), hw]
    have en := nd_eq x (1, s, 0)
    simp only at en
    rw [en]
    by_cases e : x = (1, s, 0)
    · rw [decide_eq_true e, cond_true, law07_MeanSome_l6s y0 y2 y3 y6 s y32 y33 y34 y47 y48 y49 xs hx r (i + 1) (n - 1) h5 (by omega) (by omega), List.countP_cons_of_pos (by simpa using e)]
      congr 7; omega
    · rw [decide_eq_false e, cond_false, law07_MeanSome_l6s y0 y2 y3 y6 s y32 y33 y34 y47 y48 y49 xs hx r (i + 1) n h5 (by omega) hn2, List.countP_cons_of_neg (by simpa using e)]
theorem law07_MeanSome_l2s [Dfr] (l : List Nd) (hl : l.length ≤ 1000000) (y2 : Bool) (y3 : List Tc) (x : Tc) (hx1 : x.1.length ≤ 1000000) (y32 : List Tc) (y33 y34 : Int) (hc : ∀ s, (x.1.countP fun y => decide (s = y)) ≤ l.countP fun n => decide (n = (1, s, 0))) : ∀ (r : List ByteArray) (i : Nat), x.1.drop i = r →
    law07_MeanSome_l2 l y2 y3 x y32 y33 y34 x.1 (x.1.length : Int) (i : Int) = some (0, (l, y2, y3, y32, y33, y34))
  | [], i, h => by
    obtain ⟨h1, h2⟩ := drop_nil h
    rw [law07_MeanSome_l2_eq]
    simp only [h2, cond_false]
  | s :: r, i, h => by
    obtain ⟨h1, h2, h3, h4, h5, h6⟩ := drop_cons h
    have e4 := law07_MeanSome_l4s l y2 y3 x s y32 y33 y34 x.1 (x.1.length : Int) (i : Int) x.1 hx1 x.1 0 0 rfl (Nat.le_refl _)
    rw [Int.natCast_zero, Nat.zero_add] at e4
    have hcount : (x.1.countP fun y => decide (s = y)) ≤ x.1.length := List.countP_le_length
    have e6 := law07_MeanSome_l6s l y2 y3 x s y32 y33 y34 x.1 (x.1.length : Int) (i : Int) l hl l 0 ((x.1.countP fun y => decide (s = y) : Nat) : Int) rfl (by omega) (by omega)
    rw [Int.natCast_zero] at e6
    have := hc s
    rw [law07_MeanSome_l2_eq]
    simp only [h2, h3, h4, cond_true, e4, e6, Option.bind_some, w_succ (show i < 9223372036854775807 by omega), law07_MeanSome_l2s l hl y2 y3 x hx1 y32 y33 y34 hc r (i + 1) h5]
    rw [decide_eq_false (by omega)]
    rfl
theorem law07_MeanSome_l0s [Dfr] (l : List Nd) (hl : l.length ≤ 1000000) (y2 : Bool) (t : List Tc) (ht : t.length ≤ 1000000000) (hs : ∀ x ∈ t, x.1.length ≤ 1000000 ∧ signB x.2 = true ∧ ∀ s, (x.1.countP fun y => decide (s = y)) ≤ l.countP fun n => decide (n = (1, s, 0))) : ∀ (r : List Tc) (i : Nat), t.drop i = r →
    law07_MeanSome_l0 l y2 t t (t.length : Int) (i : Int) = some (0, (y2, t))
  | [], i, h => by
    obtain ⟨h1, h2⟩ := drop_nil h
    rw [law07_MeanSome_l0_eq]
    simp only [h2, cond_false]
  | x :: r, i, h => by
    obtain ⟨h1, h2, h3, h4, h5, h6⟩ := drop_cons h
    obtain ⟨k1, k2, k3⟩ := hs x (List.mem_of_mem_drop (by rw [h]; exact List.mem_cons_self ..))
    have e2 := law07_MeanSome_l2s l hl y2 t x k1 t (t.length : Int) (i : Int) k3 x.1 0 rfl
    rw [Int.natCast_zero] at e2
    have hsg := signB_iff.1 k2
    rw [law07_MeanSome_l0_eq]
    simp only [h2, h3, h4, cond_true, decide_eq_false (show ¬ x.2 < 1 by omega), decide_eq_false (show ¬ x.2 > 3 by omega), cond_false, e2, Option.bind_some, w_succ (show i < 9223372036854775807 by omega), law07_MeanSome_l0s l hl y2 t ht hs r (i + 1) h5]
    rfl
theorem law07_MeanSome_true [Dfr] [HasMix] (l : List Nd) (hl : wfRow l) : law07_MeanSome l = some true := by
  have hlen : l.length ≤ 140737488351232 := hl.1
  rw [law07_MeanSome_eq, law07_plain_s l (by omega)]
  simp only [Option.bind_some, law07_alive_s]
  by_cases hz : (plainR l).2 = 0
  · rw [show ((plainR l).2 == 0) = true by simp [hz]]
    simp only [Bool.not_true, cond_false, law07_few_s, Option.bind_some]
    by_cases f1 : l.length ≤ 120 ∧ dep l ≤ 24
    · rw [decide_eq_true f1]
      simp only [Bool.not_true, cond_false, sort_Term_s l (by omega), Option.bind_some]
      by_cases t1 : sOf l = 1
      · rw [decide_eq_true t1]
        obtain ⟨m, rfl, fm, zm, pm⟩ := term_of t1
        rw [plainR_pl fm zm pm] at hz ⊢
        by_cases hs : m.size ≤ 24 ∧ m.nm.length ≤ 6
        · rw [if_pos hs]
          have hsm : m.small := hs
          have hl := (sm_len hsm).1
          have e := law07_MeanSome_l0s m.row (by omega) false m.tr (by omega) (fun x hx => ⟨by have := sm_short hsm x hx; omega, (Tm.ends_tr m fm).1 x hx, Tm.count_tr hx⟩) m.tr 0 rfl
          rw [Int.natCast_zero] at e
          obtain ⟨x, hx⟩ := Tm.tr_ne pm
          have hpos := List.length_pos_of_mem hx
          simp only [Bool.not_true, cond_false, e, Option.bind_some, decide_eq_true (show (m.tr.length : Int) > 0 by omega)]
          rfl
        · rw [if_neg hs] at hz; cases hz
      · rw [decide_eq_false t1]; rfl
    · rw [decide_eq_false f1]; rfl
  · rw [show ((plainR l).2 == 0) = false by simpa using hz]; rfl
end Go.Proofs.YtabhofdbgmdjkaaGreatDoor.Sv
