/- The laws of refusing and meanings: what they tell. -/
import Derived.Test.YthhefjmdfdckjaaGreatDoorL08
import Derived.Test.YthhefjmdfdckjaaGreatDoorW07b
import Derived.Test.YthhefjmdfdckjaaGreatDoorM13
namespace Go.Proofs.YthhefjmdfdckjaaGreatDoor.Sv
open Go Go.Sv Go.Rd
set_option linter.unusedVariables false
set_option linter.unusedSimpArgs false

theorem hit_one [Dfr] (s : ByteArray) : hit [s] = isAt s := by
  funext n
  unfold hit isAt
  simp

theorem cnt_at [Dfr] (ns : List ByteArray) (a : ByteArray) : ∀ l : List Nd, (rewR ns l).countP (isAt a) = l.countP (isAt a)
  | [] => rfl
  | n :: r => by
    have h6 : isAt a (nd 6) = false := by simp [isAt]
    have h3 : isAt a (nd 3) = false := by simp [isAt]
    rw [rewR_cons, List.countP_append, cnt_at ns a r, rw1]
    cases hit ns n with
    | true =>
      simp only [cond_true, rf]
      rw [List.countP_cons_of_neg (by rw [h6]; simp), List.countP_cons, List.countP_cons_of_neg (by rw [h3]; simp), List.countP_cons]
      simp; omega
    | false =>
      simp only [cond_false]
      rw [List.countP_cons, List.countP_cons]
      simp; omega

theorem few_of [Dfr] {m : Tm} (h : m.small) : fewT m.tr ∧ m.tr.length ≤ 400000000 := ⟨fun x hx => by have := sm_short h x hx; omega, (sm_len h).1⟩

theorem term_of8 [Dfr] {l : List Nd} (h : sOf l = 1) : ∃ m : Tm, l = m.row ∧ m.fine ∧ m.size ≤ 200 ∧ m.pl = true := by
  obtain ⟨m, h1, h2, h3, h4⟩ := sOf_pos (l := l) (by rw [h]; decide)
  exact ⟨m, h1, h2, h3, by rw [Tm.so_pl, ← h4]; exact decide_eq_true h⟩

theorem law08_RefuseTwice_true [Dfr] [HasMix] (l : List Nd) (s : ByteArray) (hw : wfRow l) (hs : s.size ≤ reachBytes) : law08_RefuseTwice l s = some true := by
  rw [law08_RefuseTwice_eq]
  simp only [law08_few_s, law08_alive_s, Option.bind_some]
  by_cases hf : l.length ≤ 120 ∧ dep l ≤ 24
  · rw [decide_eq_true hf]
    have l3 := rewR_len [s] l
    have l4 := rewR_len [s] (rewR [s] l)
    have c0 : l.countP (hit [s]) ≤ l.length := List.countP_le_length
    have c1 : (rewR [s] l).countP (hit [s]) = l.countP (hit [s]) := by rw [hit_one, cnt_at]
    rw [c1] at l4
    have p1 : (placesR s l 0).length = l.countP (hit [s]) := by rw [placesR_len, hit_one]
    have p2 : (placesR s (rewR [s] (rewR [s] l)) 0).length = l.countP (hit [s]) := by rw [placesR_len, cnt_at, cnt_at, hit_one]
    simp only [Bool.not_true, cond_false, refuse_Rewrite_s l [s] (by omega) (by simp), refuse_Rewrite_s (rewR [s] l) [s] (by omega) (by simp), refuse_Places_s l s (by omega), refuse_Places_s (rewR [s] (rewR [s] l)) s (by omega), Option.bind_some, p1, p2]
    rw [w64_id (n := 2 * ((l.countP (hit [s]) : Nat) : Int)) (by omega) (by omega), w64_id (by omega) (by omega), l4]
    rw [show (((((rewR [s] l).length + 2 * l.countP (hit [s]) : Nat)) : Int) != ((rewR [s] l).length : Int) + 2 * ((l.countP (hit [s]) : Nat) : Int)) = false by rw [bne_eq_false_iff_eq]; omega]
    simp only [cond_false, bne_self_eq_false, sort_Term_s l (by omega), Option.bind_some]
    by_cases ht : sOf l = 1
    · rw [decide_eq_true ht]
      simp only [Bool.not_true, cond_false, mean_Small_s, Option.bind_some]
      by_cases hsm : smallR (rewR [s] (rewR [s] l))
      · rw [decide_eq_true hsm]
        obtain ⟨m, rfl, hfi, hz, hpl⟩ := term_of8 ht
        have hp1 : (m.rew [s]).pl = true := by rw [(Tm.rew_sorts [s] m).1]; exact hpl
        have hp2 : ((m.rew [s]).rew [s]).pl = true := by rw [(Tm.rew_sorts [s] (m.rew [s])).1]; exact hp1
        rw [← Tm.rew_row, ← Tm.rew_row] at hsm l4
        rw [← Tm.rew_row, ← Tm.rew_row]
        have hs2 := smallR_row.1 hsm
        have hs1 : (m.rew [s]).small := by
          refine ⟨?_, ?_⟩
          · have := hs2.1
            rw [Tm.len_row, Tm.len_row] at l4
            omega
          · have := hs2.2
            rw [Tm.nm_row] at this ⊢
            rwa [Tm.rew_row [s] (m.rew [s]), cnt_rew] at this
        have hf1 : (m.rew [s]).fine := Tm.rew_good [s] hfi
        have hf2 : ((m.rew [s]).rew [s]).fine := Tm.rew_good [s] hf1
        have q1 := plainR_row hf1 (by have := hs1.1; omega) (Tm.po_of_pl hp1) hs1
        have q2 := plainR_row hf2 (by have := hs2.1; omega) (Tm.po_of_pl hp2) hs2
        rw [(Tm.rew_twice [s] m).1] at q2
        obtain ⟨f1, f2⟩ := few_of hs1
        simp only [Bool.not_true, cond_false, mean_Plain_s (m.rew [s]).row (by rw [Tm.len_row]; have := hs1.1; omega), mean_Plain_s ((m.rew [s]).rew [s]).row (by rw [Tm.len_row]; have := hs2.1; omega), q1, q2, Option.bind_some, cond_true, beq_self_eq_true,
          law02_Olds_s _ (show (m.rew [s]).tr.length ≤ 1000000000 by omega), ref02_Same_s _ _ (show (m.rew [s]).tr.length ≤ 4611686018427387904 by omega) f1.short f1.short, decide_true]
      · rw [decide_eq_false hsm]; rfl
    · rw [decide_eq_false ht]; rfl
  · rw [decide_eq_false hf]; rfl

/-- RefuseMeans, of rows that fit a machine thrice over. -/
theorem law08_RefuseMeans_upto [Dfr] [HasMix] (l : List Nd) (s : ByteArray) (hl : l.length ≤ 4000000) : law08_RefuseMeans l s = some true := by
  rw [law08_RefuseMeans_eq, refuse_Rewrite_s l [s] hl (by simp)]
  simp only [law08_few_s, law08_alive_s, Option.bind_some]
  by_cases hf : l.length ≤ 120 ∧ dep l ≤ 24
  · rw [decide_eq_true hf]
    simp only [Bool.not_true, cond_false, sort_Term_s l (by omega), Option.bind_some]
    by_cases ht : sOf l = 1
    · rw [decide_eq_true ht]
      simp only [Bool.not_true, cond_false, mean_Small_s, Option.bind_some]
      by_cases hs0 : smallR l
      · rw [decide_eq_true hs0]
        by_cases hsm : smallR (rewR [s] l)
        · rw [decide_eq_true hsm]
          obtain ⟨m, rfl, hfi, hz, hpl⟩ := term_of8 ht
          have hp1 : (m.rew [s]).pl = true := by rw [(Tm.rew_sorts [s] m).1]; exact hpl
          rw [← Tm.rew_row] at hsm
          rw [← Tm.rew_row]
          have hs1 := smallR_row.1 hsm
          have hs := smallR_row.1 hs0
          have hf1 : (m.rew [s]).fine := Tm.rew_good [s] hfi
          have q0 := plainR_row hfi (by omega) (Tm.po_of_pl hpl) hs
          have q1 := plainR_row hf1 (by have := hs1.1; omega) (Tm.po_of_pl hp1) hs1
          obtain ⟨f1, f2⟩ := few_of hs1
          obtain ⟨g1, g2⟩ := few_of hs
          have hor := ref02_Or_s m.tr (m.rew [s]).tr (by omega) (by omega) g1.short f1.short
          have hc : canon cmpT (m.tr ++ (m.rew [s]).tr) = (m.rew [s]).tr := by
            rw [canon_ext ordT (m := (m.rew [s]).tr) fun x => ?_, canon_of_srt ordT (Tm.srt_tr _)]
            rw [List.mem_append]
            exact ⟨fun h => h.elim ((Tm.rew_more [s] m).1 x) id, .inr⟩
          rw [hc] at hor
          have hpl2 := refuse_Places_s m.row s (by omega)
          simp only [Bool.not_true, cond_false, mean_Plain_s m.row (by omega), mean_Plain_s (m.rew [s]).row (by rw [Tm.len_row]; have := hs1.1; omega), q0, q1, Option.bind_some, bne_self_eq_false, cond_true,
            law02_Olds_s m.tr (by omega), law02_Olds_s _ (show (m.rew [s]).tr.length ≤ 1000000000 by omega), hor, ref02_Same_s _ _ (show (m.rew [s]).tr.length ≤ 4611686018427387904 by omega) f1.short f1.short, decide_true, hpl2]
          by_cases h0 : (placesR s m.row 0).length = 0
          · have hno : ∀ x ∈ m.nm, x ∉ [s] := fun x hx h => by
              rw [List.mem_singleton.1 h] at hx
              rw [placesR_len] at h0
              have h1 := Tm.nm_count s m
              rw [Tm.wsum_count] at h1
              have h2 : (m.row.countP fun n => decide (n = (1, s, 0))) ≤ m.row.countP (isAt s) := List.countP_mono_left fun n _ h => by
                have h := of_decide_eq_true h
                subst h
                simp [isAt]
              have h3 : 0 < m.nm.countP fun y => decide (s = y) := List.countP_pos_iff.2 ⟨s, hx, by simp⟩
              omega
            rw [decide_eq_false (show ¬ ((placesR s m.row 0).length : Int) > 0 by omega), Tm.rew_none [s] m hno]
            simp only [cond_false, ref02_Same_s m.tr m.tr (by omega) g1.short g1.short, decide_true, Option.bind_some]
          · rw [decide_eq_true (show ((placesR s m.row 0).length : Int) > 0 by omega)]; rfl
        · rw [decide_eq_false hsm]; rfl
      · rw [decide_eq_false hs0]; rfl
    · rw [decide_eq_false ht]; rfl
  · rw [decide_eq_false hf]; rfl
end Go.Proofs.YthhefjmdfdckjaaGreatDoor.Sv
