/- The law of refusing and sorts: what it tells. -/
import Derived.Test.YthhefjmdfdckjaaDoorL08
import Derived.Test.YthhefjmdfdckjaaDoorW04
namespace Go.Proofs.YthhefjmdfdckjaaDoor.Sv
open Go Go.Sv Go.Rd
set_option linter.unusedVariables false
set_option linter.unusedSimpArgs false

theorem law08_RefuseSorts_true (l : List Nd) (ns : List ByteArray) (hw : wfRow l) (hw2 : ns.length ≤ maxLen ∧ ∀ x ∈ ns, x.size ≤ maxLen) : law08_RefuseSorts l ns = some true := by
  rw [law08_RefuseSorts_eq]
  simp only [law08_few_s, law08_alive_s, Option.bind_some]
  by_cases h : l.length ≤ 120 ∧ dep l ≤ 24
  · have h1 := h.1
    simp only [h, and_self, decide_true, Bool.not_true, cond_false]
    by_cases h50 : ns.length > 50
    · rw [decide_eq_true (show (ns.length : Int) > 50 by omega)]; rfl
    · rw [decide_eq_false (show ¬ (ns.length : Int) > 50 by omega)]
      have hr := rewR_len ns l
      have hle : l.countP (hit ns) ≤ l.length := List.countP_le_length ..
      simp only [cond_false, cond_true, refuse_Rewrite_s l ns (by omega) (by omega), Option.bind_some]
      by_cases h2 : (rewR ns l).length > 200
      · rw [decide_eq_true (show ((rewR ns l).length : Int) > 200 by omega)]; rfl
      · rw [decide_eq_false (show ¬ ((rewR ns l).length : Int) > 200 by omega)]
        simp only [cond_false, sort_Of_s l (by omega), sort_Of_s (rewR ns l) (by omega), Option.bind_some, sOf_rew ns l (by omega), beq_self_eq_true, cond_true, row_Count_s l _ (show l.length ≤ 1000000000 by omega) (show ([(1 : Int)]).length ≤ 1000 by simp), row_Count_s (rewR ns l) _ (show (rewR ns l).length ≤ 1000000000 by omega) (show ([(1 : Int)]).length ≤ 1000 by simp), cnt_rew]
  · simp only [decide_eq_false h, Bool.not_false, cond_true]

end Go.Proofs.YthhefjmdfdckjaaDoor.Sv
