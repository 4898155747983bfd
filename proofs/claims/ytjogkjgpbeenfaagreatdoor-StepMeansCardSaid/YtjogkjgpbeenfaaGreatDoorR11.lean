/- What the reference's functions of layer 11 compute: in plain words. -/
import Derived.Test.YtjogkjgpbeenfaaGreatDoorL10
import Derived.Test.YtjogkjgpbeenfaaGreatDoorX19
import Derived.Test.YtjogkjgpbeenfaaGreatDoorM11
namespace Go.Proofs.YtjogkjgpbeenfaaGreatDoor.Sv
open Go Go.Sv Go.Rd
set_option linter.unusedVariables false
set_option linter.unusedSimpArgs false
end Go.Proofs.YtjogkjgpbeenfaaGreatDoor.Sv

/- What the reference's functions of layer 12 compute: in plain words. -/
namespace Go.Proofs.YtjogkjgpbeenfaaGreatDoor.Sv
open Go Go.Sv Go.Rd
set_option linter.unusedVariables false
set_option linter.unusedSimpArgs false
end Go.Proofs.YtjogkjgpbeenfaaGreatDoor.Sv

/- The laws of steps: what each tells. -/
namespace Go.Proofs.YtjogkjgpbeenfaaGreatDoor.Sv
open Go Go.Sv Go.Rd
set_option linter.unusedVariables false
set_option linter.unusedSimpArgs false
theorem ydw [Dfr] (l : List Nd) : qhf l = some (decide (l.length ≤ 100 ∧ dep l ≤ 24)) := by
  rw [yat]
  by_cases h : l.length ≤ 100
  · have e : decide ((l.length : Int) ≤ 100) = true := decide_eq_true (by omega)
    simp only [e, cond_true, qwi l (by omega), Option.bind_some, h, true_and]
    congr 1
    rw [decide_eq_decide]; omega
  · have e : decide ((l.length : Int) ≤ 100) = false := decide_eq_false (by omega)
    simp only [e, cond_false, h, false_and, decide_false]
def qA : Tm := .seq (.act ⟨#[97]⟩) .throw
def qB : Tm := .block (.pair (.act ⟨#[97]⟩) (.act ⟨#[98]⟩))
def qC : Tm := .act ⟨#[97]⟩
def qD : Tm := .hand (.act ⟨#[97]⟩) (.act ⟨#[99]⟩)
theorem yxf [Dfr] : setL qA.row := qfq (by simp only [qA, Tm.fine, Tm.good]; decide) (by decide) (by decide) (by unfold qA; rw [Tm.qft, Tm.qdh]; rfl)
theorem yxe [Dfr] : setL qB.row := qfq (by simp only [qB, Tm.fine, Tm.good]; decide) (by decide) (by decide) (by unfold qB; rw [Tm.ztz, Tm.qin]; rfl)
theorem yxd [Dfr] : setL qC.row := qfq (by simp only [qC, Tm.fine, Tm.good]; decide) (by decide) (by decide) (by unfold qC; rw [Tm.qdh])
theorem yxc [Dfr] : setL qD.row := qfq (by simp only [qD, Tm.fine, Tm.good]; decide) (by decide) (by decide) (by unfold qD; rw [Tm.zzy, Tm.qdh]; rfl)
theorem yzc [Dfr] : enL qA.row = [(1, 1)] := by
  rw [qku (show tree qA.row = some qA.t from zpe (Tm.t_ok qA)) yxf]
  unfold mvsT
  rw [show qA.t.wts 0 = [1] by decide]
  rfl
theorem yzb [Dfr] : (1, 4) ∈ enL qB.row := by
  rw [qku (show tree qB.row = some qB.t from zpe (Tm.t_ok qB)) yxe]
  unfold mvsT
  rw [show qB.t.wts 0 = [1] by decide]
  rw [List.flatMap_cons]
  exact List.mem_append_left _ (List.mem_cons_self ..)
theorem yza [Dfr] : enL qC.row = [(0, 1)] := by
  rw [qku (show tree qC.row = some qC.t from zpe (Tm.t_ok qC)) yxd]
  unfold mvsT
  rw [show qC.t.wts 0 = [0] by decide]
  rfl
theorem yyz [Dfr] : enL qD.row = [(1, 1)] := by
  rw [qku (show tree qD.row = some qD.t from zpe (Tm.t_ok qD)) yxc]
  unfold mvsT
  rw [show qD.t.wts 0 = [1] by decide]
  rfl
theorem yxr [Dfr] : qiv qA.row (1, 1) = ([(11, ByteArray.empty, 2)], ⟨#[97]⟩, 0) := by
  unfold qiv
  rw [if_pos (by rw [yzc]; exact List.mem_cons_self ..)]
  have e : putR qA.row ((1, 1) : Mv).1 (qet (qA.row.drop ((1, 1) : Mv).1.toNat) ((1, 1) : Mv).2) = (Tm.seq (.over 1) .throw).row := by decide
  rw [e, zsn (by simp only [Tm.fine, Tm.good]; decide) (by decide) (by decide), Tm.qft, Tm.qio]
  have e2 : Tm.seq' (.over 1) .throw = .over 2 := by show (if (1 : Int) = 1 then Tm.throw.st else Tm.over 1) = _; rw [if_pos rfl, Tm.zty]
  rw [e2]; rfl
theorem yxq [Dfr] : qiv qB.row (1, 4) = ((Tm.block (.going (.act ⟨#[97]⟩) (.act ⟨#[98]⟩))).row, ⟨#[]⟩, 0) := by
  unfold qiv
  rw [if_pos yzb]
  have e : putR qB.row ((1, 4) : Mv).1 (qet (qB.row.drop ((1, 4) : Mv).1.toNat) ((1, 4) : Mv).2) = (Tm.block (.going (.act ⟨#[97]⟩) (.act ⟨#[98]⟩))).row := by decide
  rw [e, zsn (by simp only [Tm.fine, Tm.good]; decide) (by decide) (by decide), Tm.ztz, Tm.zxq, Tm.qdh]
  rfl
theorem yxp [Dfr] : qiv qC.row (0, 0) = ([], ⟨#[]⟩, 120) := by
  unfold qiv
  rw [if_neg (by rw [yza]; decide)]
theorem yxl [Dfr] : yqn qD.row (1, 1) = ([(1, ⟨#[99]⟩, 0)], 0) := by
  unfold yqn
  rw [if_pos ⟨by rw [yyz]; exact List.mem_cons_self .., rfl⟩]
  have e : putR qD.row ((1, 1) : Mv).1 [(3, ByteArray.empty, 0)] = (Tm.hand .throw (.act ⟨#[99]⟩)).row := by decide
  rw [e, zsn (by simp only [Tm.fine, Tm.good]; decide) (by decide) (by decide), Tm.zzy, Tm.zty]
  have e2 : Tm.hand' (.over 2) (.act ⟨#[99]⟩) = .act ⟨#[99]⟩ := by show (if (2 : Int) = 2 then (Tm.act ⟨#[99]⟩).st else Tm.over 2) = _; rw [if_pos rfl, Tm.qdh]
  rw [e2]; rfl
theorem qhg [Dfr] [zjt] [zqx] [qkz] : zix = some true := by
  rw [qsn]
  simp only [yau, Option.bind_some]
  have eA : ([(5, ByteArray.empty, 0), (1, ⟨#[97]⟩, 0), (3, ByteArray.empty, 0)] : List Nd) = qA.row := rfl
  have eB : ([(9, ByteArray.empty, 0), (10, ByteArray.empty, 0), (1, ⟨#[97]⟩, 0), (1, ⟨#[98]⟩, 0)] : List Nd) = qB.row := rfl
  have eC : ([(1, ⟨#[97]⟩, 0)] : List Nd) = qC.row := rfl
  have eD : ([(8, ByteArray.empty, 0), (1, ⟨#[97]⟩, 0), (1, ⟨#[99]⟩, 0)] : List Nd) = qD.row := rfl
  have p : putR (Tm.block (.going (.act ⟨#[97]⟩) (.act ⟨#[98]⟩))).row 2 [(11, ByteArray.empty, 2)] = [(9, ByteArray.empty, 0), (12, ByteArray.empty, 0), (11, ByteArray.empty, 2), (1, ⟨#[98]⟩, 0)] := by decide
  have g : ([(9, ByteArray.empty, 0), (12, ByteArray.empty, 0), (1, ⟨#[97]⟩, 0), (1, ⟨#[98]⟩, 0)] : List Nd) = (Tm.block (.going (.act ⟨#[97]⟩) (.act ⟨#[98]⟩))).row := rfl
  rw [eA, eB, eC, eD, g]
  have s1 : zhx [(11, ByteArray.empty, 2)] [(11, ByteArray.empty, 2)] = some true := by rw [zuf _ _ (by decide), decide_eq_true rfl]
  have s2 : zhx (Tm.block (.going (.act ⟨#[97]⟩) (.act ⟨#[98]⟩))).row (Tm.block (.going (.act ⟨#[97]⟩) (.act ⟨#[98]⟩))).row = some true := by rw [zuf _ _ (by decide), decide_eq_true rfl]
  have s3 : zhx [(1, ⟨#[99]⟩, 0)] [(1, ⟨#[99]⟩, 0)] = some true := by rw [zuf _ _ (by decide), decide_eq_true rfl]
  have s4 : zhx [(9, ByteArray.empty, 0), (12, ByteArray.empty, 0), (11, ByteArray.empty, 2), (1, ⟨#[98]⟩, 0)] [ix (Tm.block (.going (.act ⟨#[97]⟩) (.act ⟨#[98]⟩))).row 0, ix (Tm.block (.going (.act ⟨#[97]⟩) (.act ⟨#[98]⟩))).row 1, ix ([(11, ByteArray.empty, 2)] : List Nd) 0, ix (Tm.block (.going (.act ⟨#[97]⟩) (.act ⟨#[98]⟩))).row 3] = some true := by
    rw [zuf _ _ (by decide)]
    exact congrArg some (decide_eq_true (by rfl))
  simp only [zxp _ _ (show qA.row.length ≤ 400000 by decide), zxp _ _ (show qB.row.length ≤ 400000 by decide), zxp _ _ (show qC.row.length ≤ 400000 by decide), qvl _ _ (show qD.row.length ≤ 400000 by decide), yxr, yxq, yxp, yxl, Option.bind_some,
    s1, s2, s3, cond_true, str_eq, decide_true, qik _ _ _ (show (Tm.block (.going (.act ⟨#[97]⟩) (.act ⟨#[98]⟩))).row.length ≤ 1000000 by decide) (show ([(11, ByteArray.empty, 2)] : List Nd).length ≤ 1000000 by decide), p, s4]
  rfl
end Go.Proofs.YtjogkjgpbeenfaaGreatDoor.Sv

/- A waiting place of a term, and what stands around it. -/
namespace Go.Rd
open Go Go.Sv
set_option linter.unusedVariables false
set_option linter.unusedSimpArgs false
namespace Tm
def Wt (u : Tm) : Prop := (∃ s, u = act s) ∨ (∃ a b, u = alt a b) ∨ u = yield ∨ ∃ a b, u = pair a b
end Tm
end Go.Rd

/- StepKinds: what it tells. -/
namespace Go.Proofs.YtjogkjgpbeenfaaGreatDoor.Sv
open Go Go.Sv Go.Rd
set_option linter.unusedVariables false
set_option linter.unusedSimpArgs false
end Go.Proofs.YtjogkjgpbeenfaaGreatDoor.Sv
