/- The laws of moves: what each tells. -/
import Derived.Test.YtgogodeknkoalaaGreatDoorR12
import Derived.Test.YtgogodeknkoalaaGreatDoorX20
namespace Go.Proofs.YtgogodeknkoalaaGreatDoor.Sv
open Go Go.Sv Go.Rd
set_option linter.unusedVariables false
set_option linter.unusedSimpArgs false
/-- An action beside one that may give way. -/
def mY : Tm := .par (.act ⟨#[97]⟩) .yield
theorem set_mY [Dfr] : setL mY.row := by
  refine term_set (by simp only [mY, Tm.fine, Tm.good]; decide) (by decide) (by decide) ?_
  unfold mY
  rw [Tm.st_par]; rfl
theorem tree_mY [Dfr] : tree mY.row = some mY.t := tree_row (Tm.t_ok mY)
theorem en_mY [Dfr] : enL mY.row = [(1, 1), (2, 4), (2, 5)] := by
  rw [enL_in tree_mY set_mY]
  unfold mvsT
  rw [show mY.t.wts 0 = [1, 2] by decide]
  have hf : freeT mY.t 2 = true := by
    unfold freeT
    rw [show (besideP (mY.t.path 0 2)).2 = false by decide]
    rfl
  simp only [List.flatMap_cons, List.flatMap_nil, List.append_nil, hf]
  rfl
theorem en_none [Dfr] {l : List Nd} {t : T} (ht : tree l = some t) (hw : t.wts 0 = []) : enL l = [] := by
  by_cases hs : setL l
  · rw [enL_in ht hs]
    unfold mvsT
    rw [hw]; rfl
  · exact enL_no hs
theorem move_Text_s [Dfr] [HasText] (m : Mv) : move_Text m = text_spec m := by rw [move_Text_eq, HasText.text]
theorem law12_alive_s [Dfr] [HasOver] [HasWays] [HasText] : law12_alive = some true := by
  rw [law12_alive_eq]
  have eY : ([(7, ByteArray.empty, 0), (1, ⟨#[97]⟩, 0), (4, ByteArray.empty, 0)] : List Nd) = mY.row := rfl
  have eO : enL [(11, ByteArray.empty, 1)] = [] := en_none (t := .n0 (11, ByteArray.empty, 1)) (by decide) (by decide)
  have hl : mY.row.length ≤ 1000000 := by decide
  have p1 : pickL [(1, 1), (2, 4), (2, 5)] 4 = ((2, 4), 0) := by decide
  have p2 : pickL [(1, 1), (2, 4), (2, 5)] (-1) = ((2, 5), 0) := by decide
  have p3 : pickL [] 0 = ((0, 0), 120) := by decide
  have t1 : text_spec (2, 4) = some ⟨#[103, 111, 32, 50]⟩ := by
    unfold text_spec
    have e2 : itoaB 2 = ⟨#[50]⟩ := by
      unfold itoaB Lib.itoa
      rw [if_neg (by decide), show (2 : Int).toNat = 2 from rfl, Lib.decDigits_one (by decide)]
      rfl
    rw [if_pos (by decide), if_pos (by decide), e2]
    rfl
  have t2 : text_spec (0, 9) = some ⟨#[]⟩ := by
    unfold text_spec
    rw [if_neg (by decide)]
  rw [eY]
  simp only [move_Pick_s _ _ hl, move_Pick_s [(11, ByteArray.empty, 1)] 0 (by decide), move_Enabled_en _ hl, move_Is_s _ _ hl, en_mY, eO, p1, p2, p3, Option.bind_some, ref12_Same_s _ _ (show ([(1, 1), (2, 4), (2, 5)] : List Mv).length ≤ 1000000 by decide), decide_true, cond_true,
    move_Text_s, t1, t2, str_eq]
  rfl
end Go.Proofs.YtgogodeknkoalaaGreatDoor.Sv
