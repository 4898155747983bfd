/- The laws of doomed places: what each tells. -/
import Derived.Test.YtdbabacjmkfkgaaGreatDoorW11
import Derived.Test.YtdbabacjmkfkgaaGreatDoorL10
namespace Go.Proofs.YtdbabacjmkfkgaaGreatDoor.Sv
open Go Go.Sv Go.Rd
set_option linter.unusedVariables false
set_option linter.unusedSimpArgs false
theorem law11_few_s [Dfr] (l : List Nd) : law11_few l = some (decide (l.length ≤ 100 ∧ dep l ≤ 24)) := by
  rw [law11_few_eq]
  by_cases h : l.length ≤ 100
  · have e : decide ((l.length : Int) ≤ 100) = true := decide_eq_true (by omega)
    simp only [e, cond_true, ref03_Depth_s l (by omega), Option.bind_some, h, true_and]
    congr 1
    rw [decide_eq_decide]; omega
  · have e : decide ((l.length : Int) ≤ 100) = false := decide_eq_false (by omega)
    simp only [e, cond_false, h, false_and, decide_false]
/-- The terms that alive speaks of. -/
def mPair : Tm := .pair (.act ⟨#[97]⟩) (.act ⟨#[98]⟩)
def mA : Tm := .block (.par mPair (.fin 2 .skip))
def mM : Tm := .block (.par mPair mPair)
theorem set_A [Dfr] : mA.row ≠ [] ∧ settleR mA.row = mA.row := by
  refine ⟨Tm.row_ne _, ?_⟩
  rw [settleR_row (by simp only [mA, mM, mPair, Tm.fine, Tm.good]; decide) (by decide) (by decide)]
  have : mA.st = mA := by
    unfold mA mPair
    rw [Tm.st_block, Tm.st_par, Tm.st_pair, Tm.st_fin]; rfl
  rw [this]
theorem set_M [Dfr] : mM.row ≠ [] ∧ settleR mM.row = mM.row := by
  refine ⟨Tm.row_ne _, ?_⟩
  rw [settleR_row (by simp only [mA, mM, mPair, Tm.fine, Tm.good]; decide) (by decide) (by decide)]
  have : mM.st = mM := by
    unfold mM mPair
    rw [Tm.st_block, Tm.st_par, Tm.st_pair]; rfl
  rw [this]
theorem tree_A [Dfr] : tree mA.row = some mA.t := tree_row (Tm.t_ok mA)
theorem tree_M [Dfr] : tree mM.row = some mM.t := tree_row (Tm.t_ok mM)
theorem act_A [Dfr] [HasOver] : doom_Active mA.row = some [2] := by
  rw [doom_Active_s tree_A (by decide) set_A]; rfl
theorem act_M [Dfr] [HasOver] : doom_Active mM.row = some [2, 5] := by
  rw [doom_Active_s tree_M (by decide) set_M]; rfl
theorem bes_A [Dfr] [HasOver] : doom_Beside mA.row 2 = some [(Tm.fin 2 .skip).row] := (doom_Beside_s tree_A (by decide) set_A (k := 2) (by decide)).trans rfl
def mF : Tm := .fin 2 .skip
theorem set_F [Dfr] : mF.row ≠ [] ∧ settleR mF.row = mF.row := by
  refine ⟨Tm.row_ne _, ?_⟩
  rw [settleR_row (by simp only [mF, Tm.fine, Tm.good]; decide) (by decide) (by decide)]
  have : mF.st = mF := by unfold mF; rw [Tm.st_fin]
  rw [this]
theorem set_P [Dfr] : mPair.row ≠ [] ∧ settleR mPair.row = mPair.row := by
  refine ⟨Tm.row_ne _, ?_⟩
  rw [settleR_row (by simp only [mPair, Tm.fine, Tm.good]; decide) (by decide) (by decide)]
  have : mPair.st = mPair := by unfold mPair; rw [Tm.st_pair]
  rw [this]
theorem dmd_F [Dfr] : doom_Doomed mF.row = some true := by
  have h : tree mF.row = some mF.t := tree_row (Tm.t_ok mF)
  rw [doom_Doomed_s h (by decide), decide_eq_true set_F]; rfl
theorem dmd_P [Dfr] : doom_Doomed mPair.row = some false := by
  have h : tree mPair.row = some mPair.t := tree_row (Tm.t_ok mPair)
  rw [doom_Doomed_s h (by decide), decide_eq_true set_P]; rfl
theorem free_A [Dfr] [HasOver] : doom_Free mA.row 2 = some true :=
  (doom_Free_s tree_A (by decide) set_A (k := 2) (by decide) (fun _ => true) (fun x hx => by
    have : x ∈ [mF.row] := hx
    rw [List.mem_singleton.1 this]; exact dmd_F) (by decide)).trans rfl
theorem free_M [Dfr] [HasOver] : doom_Free mM.row 2 = some false :=
  (doom_Free_s tree_M (by decide) set_M (k := 2) (by decide) (fun _ => false) (fun x hx => by
    have : x ∈ [mPair.row] := hx
    rw [List.mem_singleton.1 this]; exact dmd_P) (by decide)).trans rfl
def mQ : Tm := .par mPair mF
def mR : Tm := .par mPair mPair
theorem set_Q [Dfr] : mQ.row ≠ [] ∧ settleR mQ.row = mQ.row := by
  refine ⟨Tm.row_ne _, ?_⟩
  rw [settleR_row (by simp only [mQ, mF, mPair, Tm.fine, Tm.good]; decide) (by decide) (by decide)]
  have : mQ.st = mQ := by unfold mQ mPair mF; rw [Tm.st_par, Tm.st_pair, Tm.st_fin]; rfl
  rw [this]
theorem set_R [Dfr] : mR.row ≠ [] ∧ settleR mR.row = mR.row := by
  refine ⟨Tm.row_ne _, ?_⟩
  rw [settleR_row (by simp only [mR, mPair, Tm.fine, Tm.good]; decide) (by decide) (by decide)]
  have : mR.st = mR := by unfold mR mPair; rw [Tm.st_par, Tm.st_pair]; rfl
  rw [this]
theorem dmd_Q [Dfr] : doom_Doomed mQ.row = some true := by
  have h : tree mQ.row = some mQ.t := tree_row (Tm.t_ok mQ)
  rw [doom_Doomed_s h (by decide), decide_eq_true set_Q]; rfl
theorem dmd_R [Dfr] : doom_Doomed mR.row = some false := by
  have h : tree mR.row = some mR.t := tree_row (Tm.t_ok mR)
  rw [doom_Doomed_s h (by decide), decide_eq_true set_R]; rfl
theorem dmd_A [Dfr] : doom_Doomed mA.row = some false := by
  rw [doom_Doomed_s tree_A (by decide), decide_eq_true set_A]; rfl
theorem free_A3 [Dfr] [HasOver] : doom_Free mA.row 3 = some false := by
  have h := doom_beside_no (l := mA.row) (by decide) 3 (fun t ht _ => by rw [tree_A] at ht; cases ht; decide) (fun _ => ⟨_, tree_A⟩)
  rw [doom_Free_eq, h]
  simp only [Option.bind_some, Bool.not_true, cond_false]
  rw [slices_ContainsFunc__Sapi_Node_s [] _ (fun _ => false) (by decide) (fun x hx => by cases hx)]
  rfl
theorem ints_1 [Dfr] : ref11_Ints [2] [2] = some true := ((ref11_Ints_lim _ _).iff _).2 ⟨6, by kernel_rfl⟩
theorem ints_2 [Dfr] : ref11_Ints [2, 5] [2, 5] = some true := ((ref11_Ints_lim _ _).iff _).2 ⟨6, by kernel_rfl⟩
theorem set_Y [Dfr] : Tm.yield.row ≠ [] ∧ settleR Tm.yield.row = Tm.yield.row := by
  refine ⟨Tm.row_ne _, ?_⟩
  rw [settleR_row (by simp only [Tm.fine, Tm.good]) (by decide) (by decide), Tm.st_yield]
theorem free_Y [Dfr] [HasOver] : doom_Free Tm.yield.row 0 = some true := by
  have h : tree Tm.yield.row = some Tm.yield.t := tree_row (Tm.t_ok _)
  exact (doom_Free_s h (by decide) set_Y (k := 0) (by decide) (fun _ => true) (fun x hx => by
    have : x ∈ ([] : List (List Nd)) := hx
    cases this) (by decide)).trans rfl
theorem act_S [Dfr] [HasOver] : doom_Active Tm.skip.row = some [] := by
  refine doom_Active_no (by decide) fun h => ?_
  have h2 := h.2
  rw [settleR_row (by simp only [Tm.fine, Tm.good]) (by decide) (by decide), Tm.st_skip] at h2
  have h3 := Tm.row_inj h2
  cases h3
theorem same_F [Dfr] : ref03_Same mF.row mF.row = some true := ((ref03_Same_lim _ _).iff _).2 ⟨6, by kernel_rfl⟩
theorem law11_alive_s [Dfr] [HasOver] : law11_alive = some true := by
  rw [law11_alive_eq]
  have eA : ([(9, ByteArray.empty, 0), (7, ByteArray.empty, 0), (10, ByteArray.empty, 0), (1, ⟨#[97]⟩, 0), (1, ⟨#[98]⟩, 0), (14, ByteArray.empty, 2), (2, ByteArray.empty, 0)] : List Nd) = mA.row := rfl
  have eM : ([(9, ByteArray.empty, 0), (7, ByteArray.empty, 0), (10, ByteArray.empty, 0), (1, ⟨#[97]⟩, 0), (1, ⟨#[98]⟩, 0), (10, ByteArray.empty, 0), (1, ⟨#[97]⟩, 0), (1, ⟨#[98]⟩, 0)] : List Nd) = mM.row := rfl
  have eQ : ([(7, ByteArray.empty, 0), (10, ByteArray.empty, 0), (1, ⟨#[97]⟩, 0), (1, ⟨#[98]⟩, 0), (14, ByteArray.empty, 2), (2, ByteArray.empty, 0)] : List Nd) = mQ.row := rfl
  have eR : ([(7, ByteArray.empty, 0), (10, ByteArray.empty, 0), (1, ⟨#[97]⟩, 0), (1, ⟨#[98]⟩, 0), (10, ByteArray.empty, 0), (1, ⟨#[97]⟩, 0), (1, ⟨#[98]⟩, 0)] : List Nd) = mR.row := rfl
  have eF : ([(14, ByteArray.empty, 2), (2, ByteArray.empty, 0)] : List Nd) = mF.row := rfl
  have eY : ([(4, ByteArray.empty, 0)] : List Nd) = Tm.yield.row := rfl
  have eS : ([(2, ByteArray.empty, 0)] : List Nd) = Tm.skip.row := rfl
  rw [eA, eM, eQ, eR, eF, eY, eS]
  simp only [bes_A, act_A, act_M, ints_1, ints_2, dmd_Q, dmd_A, dmd_R, free_A, free_M, free_A3, free_Y, act_S, Option.bind_some, cond_true, Bool.not_false]
  rw [show (([(Tm.fin 2 .skip).row] : List (List Nd)).length : Int) = 1 from rfl, show ix [(Tm.fin 2 .skip).row] 0 = mF.row from rfl, same_F]
  rfl
