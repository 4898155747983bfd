/- The laws of steps: what each tells. -/
import Derived.Test.YtjogkjgpbeenfaaGreatDoorW13
import Derived.Test.YtjogkjgpbeenfaaGreatDoorR12
namespace Go.Proofs.YtjogkjgpbeenfaaGreatDoor.Sv
open Go Go.Sv Go.Rd
set_option linter.unusedVariables false
set_option linter.unusedSimpArgs false
theorem law13_few_s [Dfr] (l : List Nd) : law13_few l = some (decide (l.length ≤ 100 ∧ dep l ≤ 24)) := by
  rw [law13_few_eq]
  by_cases h : l.length ≤ 100
  · have e : decide ((l.length : Int) ≤ 100) = true := decide_eq_true (by omega)
    simp only [e, cond_true, ref03_Depth_s l (by omega), Option.bind_some, h, true_and]
    congr 1
    rw [decide_eq_decide]; omega
  · have e : decide ((l.length : Int) ≤ 100) = false := decide_eq_false (by omega)
    simp only [e, cond_false, h, false_and, decide_false]
/-- The terms that alive speaks of. -/
def qA : Tm := .seq (.act ⟨#[97]⟩) .throw
def qB : Tm := .block (.pair (.act ⟨#[97]⟩) (.act ⟨#[98]⟩))
def qC : Tm := .act ⟨#[97]⟩
def qD : Tm := .hand (.act ⟨#[97]⟩) (.act ⟨#[99]⟩)
theorem set_qA [Dfr] : setL qA.row := term_set (by simp only [qA, Tm.fine, Tm.good]; decide) (by decide) (by decide) (by unfold qA; rw [Tm.st_seq, Tm.st_act]; rfl)
theorem set_qB [Dfr] : setL qB.row := term_set (by simp only [qB, Tm.fine, Tm.good]; decide) (by decide) (by decide) (by unfold qB; rw [Tm.st_block, Tm.st_pair]; rfl)
theorem set_qC [Dfr] : setL qC.row := term_set (by simp only [qC, Tm.fine, Tm.good]; decide) (by decide) (by decide) (by unfold qC; rw [Tm.st_act])
theorem set_qD [Dfr] : setL qD.row := term_set (by simp only [qD, Tm.fine, Tm.good]; decide) (by decide) (by decide) (by unfold qD; rw [Tm.st_hand, Tm.st_act]; rfl)
theorem en_qA [Dfr] : enL qA.row = [(1, 1)] := by
  rw [enL_in (show tree qA.row = some qA.t from tree_row (Tm.t_ok qA)) set_qA]
  unfold mvsT
  rw [show qA.t.wts 0 = [1] by decide]
  rfl
theorem en_qB [Dfr] : (1, 4) ∈ enL qB.row := by
  rw [enL_in (show tree qB.row = some qB.t from tree_row (Tm.t_ok qB)) set_qB]
  unfold mvsT
  rw [show qB.t.wts 0 = [1] by decide]
  rw [List.flatMap_cons]
  exact List.mem_append_left _ (List.mem_cons_self ..)
theorem en_qC [Dfr] : enL qC.row = [(0, 1)] := by
  rw [enL_in (show tree qC.row = some qC.t from tree_row (Tm.t_ok qC)) set_qC]
  unfold mvsT
  rw [show qC.t.wts 0 = [0] by decide]
  rfl
theorem en_qD [Dfr] : enL qD.row = [(1, 1)] := by
  rw [enL_in (show tree qD.row = some qD.t from tree_row (Tm.t_ok qD)) set_qD]
  unfold mvsT
  rw [show qD.t.wts 0 = [1] by decide]
  rfl
theorem next_A [Dfr] : nextL qA.row (1, 1) = ([(11, ByteArray.empty, 2)], ⟨#[97]⟩, 0) := by
  unfold nextL
  rw [if_pos (by rw [en_qA]; exact List.mem_cons_self ..)]
  have e : putR qA.row ((1, 1) : Mv).1 (madeR (qA.row.drop ((1, 1) : Mv).1.toNat) ((1, 1) : Mv).2) = (Tm.seq (.over 1) .throw).row := by decide
  rw [e, settleR_row (by simp only [Tm.fine, Tm.good]; decide) (by decide) (by decide), Tm.st_seq, Tm.st_over]
  have e2 : Tm.seq' (.over 1) .throw = .over 2 := by show (if (1 : Int) = 1 then Tm.throw.st else Tm.over 1) = _; rw [if_pos rfl, Tm.st_throw]
  rw [e2]; rfl
theorem next_B [Dfr] : nextL qB.row (1, 4) = ((Tm.block (.going (.act ⟨#[97]⟩) (.act ⟨#[98]⟩))).row, ⟨#[]⟩, 0) := by
  unfold nextL
  rw [if_pos en_qB]
  have e : putR qB.row ((1, 4) : Mv).1 (madeR (qB.row.drop ((1, 4) : Mv).1.toNat) ((1, 4) : Mv).2) = (Tm.block (.going (.act ⟨#[97]⟩) (.act ⟨#[98]⟩))).row := by decide
  rw [e, settleR_row (by simp only [Tm.fine, Tm.good]; decide) (by decide) (by decide), Tm.st_block, Tm.st_going, Tm.st_act]
  rfl
theorem next_C [Dfr] : nextL qC.row (0, 0) = ([], ⟨#[]⟩, 120) := by
  unfold nextL
  rw [if_neg (by rw [en_qC]; decide)]
theorem refu_D [Dfr] : refuL qD.row (1, 1) = ([(1, ⟨#[99]⟩, 0)], 0) := by
  unfold refuL
  rw [if_pos ⟨by rw [en_qD]; exact List.mem_cons_self .., rfl⟩]
  have e : putR qD.row ((1, 1) : Mv).1 [(3, ByteArray.empty, 0)] = (Tm.hand .throw (.act ⟨#[99]⟩)).row := by decide
  rw [e, settleR_row (by simp only [Tm.fine, Tm.good]; decide) (by decide) (by decide), Tm.st_hand, Tm.st_throw]
  have e2 : Tm.hand' (.over 2) (.act ⟨#[99]⟩) = .act ⟨#[99]⟩ := by show (if (2 : Int) = 2 then (Tm.act ⟨#[99]⟩).st else Tm.over 2) = _; rw [if_pos rfl, Tm.st_act]
  rw [e2]; rfl
theorem law13_alive_s [Dfr] [HasOver] [HasWays] [HasPut] : law13_alive = some true := by
  rw [law13_alive_eq]
  simp only [law13_act_eq, Option.bind_some]
  have eA : ([(5, ByteArray.empty, 0), (1, ⟨#[97]⟩, 0), (3, ByteArray.empty, 0)] : List Nd) = qA.row := rfl
  have eB : ([(9, ByteArray.empty, 0), (10, ByteArray.empty, 0), (1, ⟨#[97]⟩, 0), (1, ⟨#[98]⟩, 0)] : List Nd) = qB.row := rfl
  have eC : ([(1, ⟨#[97]⟩, 0)] : List Nd) = qC.row := rfl
  have eD : ([(8, ByteArray.empty, 0), (1, ⟨#[97]⟩, 0), (1, ⟨#[99]⟩, 0)] : List Nd) = qD.row := rfl
  have p : putR (Tm.block (.going (.act ⟨#[97]⟩) (.act ⟨#[98]⟩))).row 2 [(11, ByteArray.empty, 2)] = [(9, ByteArray.empty, 0), (12, ByteArray.empty, 0), (11, ByteArray.empty, 2), (1, ⟨#[98]⟩, 0)] := by decide
  have g : ([(9, ByteArray.empty, 0), (12, ByteArray.empty, 0), (1, ⟨#[97]⟩, 0), (1, ⟨#[98]⟩, 0)] : List Nd) = (Tm.block (.going (.act ⟨#[97]⟩) (.act ⟨#[98]⟩))).row := rfl
  rw [eA, eB, eC, eD, g]
  have s1 : ref03_Same [(11, ByteArray.empty, 2)] [(11, ByteArray.empty, 2)] = some true := by rw [ref03_Same_s _ _ (by decide), decide_eq_true rfl]
  have s2 : ref03_Same (Tm.block (.going (.act ⟨#[97]⟩) (.act ⟨#[98]⟩))).row (Tm.block (.going (.act ⟨#[97]⟩) (.act ⟨#[98]⟩))).row = some true := by rw [ref03_Same_s _ _ (by decide), decide_eq_true rfl]
  have s3 : ref03_Same [(1, ⟨#[99]⟩, 0)] [(1, ⟨#[99]⟩, 0)] = some true := by rw [ref03_Same_s _ _ (by decide), decide_eq_true rfl]
  have s4 : ref03_Same [(9, ByteArray.empty, 0), (12, ByteArray.empty, 0), (11, ByteArray.empty, 2), (1, ⟨#[98]⟩, 0)] [ix (Tm.block (.going (.act ⟨#[97]⟩) (.act ⟨#[98]⟩))).row 0, ix (Tm.block (.going (.act ⟨#[97]⟩) (.act ⟨#[98]⟩))).row 1, ix ([(11, ByteArray.empty, 2)] : List Nd) 0, ix (Tm.block (.going (.act ⟨#[97]⟩) (.act ⟨#[98]⟩))).row 3] = some true := by
    rw [ref03_Same_s _ _ (by decide)]
    exact congrArg some (decide_eq_true (by rfl))
  simp only [step_Next_s _ _ (show qA.row.length ≤ 400000 by decide), step_Next_s _ _ (show qB.row.length ≤ 400000 by decide), step_Next_s _ _ (show qC.row.length ≤ 400000 by decide), step_Refuse_s _ _ (show qD.row.length ≤ 400000 by decide), next_A, next_B, next_C, refu_D, Option.bind_some,
    s1, s2, s3, cond_true, str_eq, decide_true, step_Put_s _ _ _ (show (Tm.block (.going (.act ⟨#[97]⟩) (.act ⟨#[98]⟩))).row.length ≤ 1000000 by decide) (show ([(11, ByteArray.empty, 2)] : List Nd).length ≤ 1000000 by decide), p, s4]
  rfl
end Go.Proofs.YtjogkjgpbeenfaaGreatDoor.Sv
