/- DoomMeans: what it tells. -/
import Derived.Test.YtdbabacjmkfkgaaGreatDoorL11
import Derived.Test.YtdbabacjmkfkgaaGreatDoorW11b
import Derived.Test.YtdbabacjmkfkgaaGreatDoorW07b
import Derived.Test.YtdbabacjmkfkgaaGreatDoorM14
namespace Go.Proofs.YtdbabacjmkfkgaaGreatDoor.Sv
open Go Go.Sv Go.Rd
set_option linter.unusedVariables false
set_option linter.unusedSimpArgs false
theorem law11_DoomMeans_l0s [Dfr] (z : Bool) (e : Int) (xs : List Qc) (hx : xs.length ≤ 1000000000) (hs : ∀ x ∈ xs, x.1.2 = 2) : ∀ (r : List Qc) (i : Nat), xs.drop i = r → law11_DoomMeans_l0 z e xs (xs.length : Int) (i : Int) = some (0, (z, e))
  | [], i, h => by
    obtain ⟨h1, h2⟩ := drop_nil h
    rw [law11_DoomMeans_l0_eq]
    simp only [h2, cond_false]
  | x :: r, i, h => by
    obtain ⟨h1, h2, h3, h4, h5, h6⟩ := drop_cons h
    have hm := hs x (List.mem_of_mem_drop (by rw [h]; exact List.mem_cons_self ..))
    rw [law11_DoomMeans_l0_eq]
    simp only [h2, h3, h4, cond_true, hm, bne_self_eq_false, cond_false, w_succ (show i < 9223372036854775807 by omega), law11_DoomMeans_l0s z e xs hx hs r (i + 1) h5]
theorem law11_DoomMeans_l2s [Dfr] (z : Bool) (e : Int) (xs : List Tc) (hx : xs.length ≤ 1000000000) (hs : ∀ x ∈ xs, x.2 = 2) : ∀ (r : List Tc) (i : Nat), xs.drop i = r → law11_DoomMeans_l2 z e xs (xs.length : Int) (i : Int) = some (0, (z, e))
  | [], i, h => by
    obtain ⟨h1, h2⟩ := drop_nil h
    rw [law11_DoomMeans_l2_eq]
    simp only [h2, cond_false]
  | x :: r, i, h => by
    obtain ⟨h1, h2, h3, h4, h5, h6⟩ := drop_cons h
    have hm := hs x (List.mem_of_mem_drop (by rw [h]; exact List.mem_cons_self ..))
    rw [law11_DoomMeans_l2_eq]
    simp only [h2, h3, h4, cond_true, hm, bne_self_eq_false, cond_false, w_succ (show i < 9223372036854775807 by omega), law11_DoomMeans_l2s z e xs hx hs r (i + 1) h5]
theorem law11_DoomMeans_true [Dfr] [HasOver] [HasMix] (l : List Nd) (hl : wfRow l) : law11_DoomMeans l = some true := by
  rw [law11_DoomMeans_eq, law11_few_s, Option.bind_some]
  by_cases hf : l.length ≤ 100 ∧ dep l ≤ 24
  · rw [decide_eq_true hf]
    simp only [Bool.not_true, cond_false, law11_alive_s, Option.bind_some]
    by_cases hs : setL l
    · obtain ⟨m, rfl, hfi, hz, ho, hst, hso⟩ := set_term hs
      have ht : tree m.row = some m.t := tree_row (Tm.t_ok m)
      rw [doom_Doomed_s ht (by omega), decide_eq_true (p := m.row ≠ [] ∧ settleR m.row = m.row) hs]
      simp only [Option.bind_some, Bool.true_and]
      cases hb : m.t.bang with
      | false => rfl
      | true =>
        simp only [Bool.not_true, cond_false, mean_Small_s, Option.bind_some]
        by_cases hsm : smallR m.row
        · rw [decide_eq_true hsm, sort_On_s _ true (by omega)]
          simp only [Bool.not_true, cond_false, Option.bind_some]
          have hb2 := Tm.bang_ends m hfi hb
          have hlen := sm_len (smallR_row.1 hsm)
          by_cases hq : on (sOf m.row) = 4
          · rw [if_pos True.intro, decide_eq_true hq]
            have hqo : m.qo = true := by rw [Tm.so_qo, ← hso]; exact decide_eq_true hq
            have e := law11_DoomMeans_l0s false 0 m.pq (by omega) hb2.2 m.pq 0 rfl
            rw [Int.natCast_zero] at e
            simp only [cond_true, mean_Paired_s m.row (by omega), pairedR_row hfi hz hqo (smallR_row.1 hsm), Option.bind_some, e]
            rfl
          · rw [if_pos True.intro, decide_eq_false hq]
            have hpo : m.po = true := by
              rcases ho with h | h
              · exact h
              · rw [Tm.so_qo, ← hso] at h; exact absurd (of_decide_eq_true h) hq
            have e := law11_DoomMeans_l2s false 0 m.tr (by omega) hb2.1 m.tr 0 rfl
            rw [Int.natCast_zero] at e
            simp only [cond_false, mean_Plain_s m.row (by omega), plainR_row hfi hz hpo (smallR_row.1 hsm), Option.bind_some, e]
            rfl
        · rw [decide_eq_false hsm]; rfl
    · rw [doom_Doomed_no (by omega) hs]; rfl
  · rw [decide_eq_false hf]
    simp only [Bool.not_false, cond_true, law11_alive_s, Option.bind_some]
end Go.Proofs.YtdbabacjmkfkgaaGreatDoor.Sv
