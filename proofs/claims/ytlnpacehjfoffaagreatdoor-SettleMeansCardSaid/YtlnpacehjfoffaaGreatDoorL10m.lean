/- SettleMeans: what it tells. -/
import Derived.Test.YtlnpacehjfoffaaGreatDoorL10
import Derived.Test.YtlnpacehjfoffaaGreatDoorW07b
import Derived.Test.YtlnpacehjfoffaaGreatDoorM13
namespace Go.Proofs.YtlnpacehjfoffaaGreatDoor.Sv
open Go Go.Sv Go.Rd
set_option linter.unusedVariables false
set_option linter.unusedSimpArgs false

theorem law07_Olds_l0m [Dfr] (Q : List Qc) (hQ : Q.length ≤ 1000000000) : ∀ (r : List Qc) (i : Nat) (acc : List Qc), Q.drop i = r → acc.length ≤ i → law07_Olds_l0 acc Q (Q.length : Int) (i : Int) = some (0, acc ++ r)
  | [], i, acc, h, ha => by
    obtain ⟨h1, h2⟩ := drop_nil h
    rw [law07_Olds_l0_eq]
    simp only [h2, cond_false, List.append_nil]
  | x :: r, i, acc, h, ha => by
    obtain ⟨h1, h2, h3, h4, h5, h6⟩ := drop_cons h
    rw [law07_Olds_l0_eq]
    simp only [h2, h3, h4, cond_true, room (show (acc.length + 1) * 64 ≤ 140737488355328 by omega), w_succ (show i < 9223372036854775807 by omega)]
    rw [law07_Olds_l0m Q hQ r (i + 1) _ h5 (by simp; omega), List.append_assoc]
    rfl

theorem law07_Olds_m [Dfr] (Q : List Qc) (hQ : Q.length ≤ 1000000000) : law07_Olds Q = some Q := by
  have e := law07_Olds_l0m Q hQ Q 0 [] rfl (by simp)
  rw [Int.natCast_zero] at e
  rw [law07_Olds_eq, e]
  rfl

theorem law10_SettleMeans_true [Dfr] [HasMix] (l : List Nd) (hw : wfRow l) : law10_SettleMeans l = some true := by
  rw [law10_SettleMeans_eq]
  simp only [law10_few_s, law10_alive_s, Option.bind_some]
  by_cases hf : l.length ≤ 120 ∧ dep l ≤ 24
  · rw [decide_eq_true hf]
    simp only [Bool.not_true, cond_false, settle_Settle_s l (by omega), Option.bind_some, mean_Small_s]
    rcases settleR_cases l with h0 | ⟨m, hm, hfi, hsz, ho, hst, hso⟩
    · rw [h0]; rfl
    · rw [hst]
      have hpos : 0 < m.st.row.length := by rw [Tm.len_row]; exact Tm.size_pos _
      have hlen : m.st.row.length ≤ 200 := by rw [Tm.len_row]; have := Tm.st_size m; omega
      rw [show ((m.st.row.length : Int) == 0) = false by rw [beq_eq_false_iff_ne]; omega]
      simp only [cond_false]
      subst hm
      by_cases hs0 : smallR m.row
      · rw [decide_eq_true hs0]
        by_cases hs1 : smallR m.st.row
        · rw [decide_eq_true hs1]
          simp only [Bool.not_true, cond_false, sort_On_s m.row false (by omega), Option.bind_some]
          have hsm0 := smallR_row.1 hs0
          have hsm1 := smallR_row.1 hs1
          have hfs := Tm.st_fine hfi
          have hz1 : m.st.size ≤ 200 := by have := Tm.st_size m; omega
          have hlen0 := sm_len hsm0
          by_cases hp : on (sOf m.row) = 3
          · rw [if_neg (by simp), decide_eq_true hp]
            have hpo : m.po = true := by rw [Tm.so_po, ← hso]; exact decide_eq_true hp
            have q1 := plainR_row hfs hz1 (Tm.st_po hpo) hsm1
            rw [(Tm.st_means m).1 hpo] at q1
            have f1 : fewT m.tr := fun x hx => by have := sm_short hsm0 x hx; omega
            simp only [cond_true, mean_Plain_s m.row (by omega), mean_Plain_s m.st.row (by omega), plainR_row hfi hsz hpo hsm0, q1, Option.bind_some, beq_self_eq_true, law02_Olds_s m.tr (by omega), ref02_Same_s m.tr m.tr (by omega) f1.short f1.short, decide_true]
          · rw [if_neg (by simp), decide_eq_false hp]
            have hqo : m.qo = true := by
              rcases ho with h | h
              · rw [Tm.so_po, ← hso] at h; exact absurd (of_decide_eq_true h) hp
              · exact h
            have q1 := pairedR_row hfs hz1 (Tm.st_qo hqo) hsm1
            rw [(Tm.st_means m).2 hqo] at q1
            have f1 : fewQ m.pq := fun x hx => by have := sm_shortQ hsm0 x hx; omega
            simp only [cond_false, cond_true, mean_Paired_s m.row (by omega), mean_Paired_s m.st.row (by omega), pairedR_row hfi hsz hqo hsm0, q1, Option.bind_some, beq_self_eq_true, law07_Olds_m m.pq (by omega), ref07_Same_s m.pq m.pq (by omega) f1.short f1.short, decide_true]
        · rw [decide_eq_false hs1]; rfl
      · rw [decide_eq_false hs0]; rfl
  · rw [decide_eq_false hf]; rfl
end Go.Proofs.YtlnpacehjfoffaaGreatDoor.Sv
