/- StepNext: what it tells. -/
import Derived.Test.YtjogkjgpbeenfaaGreatDoorR13
namespace Go.Proofs.YtjogkjgpbeenfaaGreatDoor.Sv
open Go Go.Sv Go.Rd
set_option linter.unusedVariables false
set_option linter.unusedSimpArgs false
theorem ref13_Refuse_s [Dfr] [HasOver] [HasWays] [HasPut] (l : List Nd) (m : Mv) (hl : l.length ≤ 400000) (hn : ∀ n ∈ l, n.2.1.size ≤ 9223372036854775807) : ref13_Refuse l m = some (refuL l m) := by
  rw [ref13_Refuse_eq, ref12_Is_s l m (by omega) hn, Option.bind_some]
  unfold refuL
  by_cases hm : m ∈ enL l
  · rw [decide_eq_true hm]
    have hpl := putR_len l m.1 [(3, ByteArray.empty, 0)]
    simp only [List.length_cons, List.length_nil] at hpl
    have hnp : ∀ n ∈ putR l m.1 [(3, ByteArray.empty, 0)], n.2.1.size ≤ 9223372036854775807 := by
      intro n hn'
      unfold putR at hn'
      split at hn'
      · rcases List.mem_append.1 hn' with h | h
        · rcases List.mem_append.1 h with h | h
          · exact hn n (List.mem_of_mem_take h)
          · rw [List.mem_singleton.1 h]; decide
        · exact hn n (List.mem_of_mem_drop h)
      · exact hn n hn'
    by_cases h1 : m.2 = 1
    · rw [if_pos ⟨hm, h1⟩, h1]
      simp only [Bool.not_true, cond_false, bne_self_eq_false, ref13_leaf_eq, Option.bind_some, ref13_Put_s l m.1 [(3, ByteArray.empty, 0)] (show l.length ≤ 1000000 by omega) (by decide), ref10_Settle_s _ (show (putR l m.1 [(3, ByteArray.empty, 0)]).length ≤ 4611686018427387904 by omega) hnp]
    · rw [if_neg (fun h => h1 h.2), show (m.2 != 1) = true by rw [bne_iff_ne]; exact h1]; rfl
  · rw [decide_eq_false hm, if_neg (fun h => hm h.1)]; rfl
theorem next_len [Dfr] (l : List Nd) (m : Mv) (hl : l.length ≤ 400000) : (nextL l m).1.length ≤ 1000000 ∧ (refuL l m).1.length ≤ 1000000 := by
  constructor
  · by_cases hm : m ∈ enL l
    · exact (next_less hm).2.2.1
    · unfold nextL; rw [if_neg hm]; simp
  · unfold refuL
    split
    · have h1 := putR_len l m.1 [(3, ByteArray.empty, 0)]
      have h2 := settleR_len (putR l m.1 [(3, ByteArray.empty, 0)])
      simp only [List.length_cons, List.length_nil] at h1
      show (settleR _).length ≤ _
      omega
    · simp
theorem law13_StepNext_true [Dfr] [HasOver] [HasWays] [HasPut] (l : List Nd) (m : Mv) (hl : wfRow l) (hm : (Ty.pair (.int .i64) (.int .i64)).wf m) : law13_StepNext l m = some true := by
  rw [law13_StepNext_eq, law13_few_s, Option.bind_some]
  by_cases hf : l.length ≤ 100 ∧ dep l ≤ 24
  · obtain ⟨b1, b2⟩ := next_len l m (by omega)
    rw [decide_eq_true hf]
    simp only [Bool.not_true, cond_false, law13_alive_s, Option.bind_some, cond_true, step_Next_s l m (by omega), ref13_Next_s l m (by omega) hl.names, step_Refuse_s l m (by omega), ref13_Refuse_s l m (by omega) hl.names, ref03_Same_s _ _ (show (nextL l m).1.length ≤ 4611686018427387904 by omega), ref03_Same_s _ _ (show (refuL l m).1.length ≤ 4611686018427387904 by omega), decide_true, str_eq, beq_self_eq_true]
  · rw [decide_eq_false hf]
    simp only [Bool.not_false, cond_true, law13_alive_s, Option.bind_some]
end Go.Proofs.YtjogkjgpbeenfaaGreatDoor.Sv
