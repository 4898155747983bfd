/- The laws of doomed places: what each tells. -/
import Derived.Test.YtdbabacjmkfkgaaDoorW11
import Derived.Test.YtdbabacjmkfkgaaDoorL10
namespace Go.Proofs.YtdbabacjmkfkgaaDoor.Sv
open Go Go.Sv Go.Rd
set_option linter.unusedVariables false
set_option linter.unusedSimpArgs false

theorem law11_few_s [Dfr] (l : List Nd) : law11_few l = some (decide (l.length ≤ 100 ∧ dep l ≤ 24)) := by
  rw [law11_few_eq]
  by_cases h : l.length ≤ 100
  · have e : decide ((l.length : Int) ≤ 100) = true := decide_eq_true (by omega)
    simp only [e, cond_true, ref03_Depth_s l (by omega), Option.bind_some, h, true_and]
    congr 1
    rw [decide_eq_decide]; omega
  · have e : decide ((l.length : Int) ≤ 100) = false := decide_eq_false (by omega)
    simp only [e, cond_false, h, false_and, decide_false]

/-- The terms that alive speaks of. -/
def mPair : Tm := .pair (.act ⟨#[97]⟩) (.act ⟨#[98]⟩)
def mA : Tm := .block (.par mPair (.fin 2 .skip))
def mM : Tm := .block (.par mPair mPair)

theorem set_A [Dfr] : mA.row ≠ [] ∧ settleR mA.row = mA.row := by
  refine ⟨Tm.row_ne _, ?_⟩
  rw [settleR_row (by simp only [mA, mM, mPair, Tm.fine, Tm.good]; decide) (by decide) (by decide)]
  have : mA.st = mA := by
    unfold mA mPair
    rw [Tm.st_block, Tm.st_par, Tm.st_pair, Tm.st_fin]; rfl
  rw [this]

theorem set_M [Dfr] : mM.row ≠ [] ∧ settleR mM.row = mM.row := by
  refine ⟨Tm.row_ne _, ?_⟩
  rw [settleR_row (by simp only [mA, mM, mPair, Tm.fine, Tm.good]; decide) (by decide) (by decide)]
  have : mM.st = mM := by
    unfold mM mPair
    rw [Tm.st_block, Tm.st_par, Tm.st_pair]; rfl
  rw [this]

theorem tree_A [Dfr] : tree mA.row = some mA.t := tree_row (Tm.t_ok mA)
theorem tree_M [Dfr] : tree mM.row = some mM.t := tree_row (Tm.t_ok mM)
theorem act_A [Dfr] [HasOver] : doom_Active mA.row = some [2] := by
  rw [doom_Active_s tree_A (by decide) set_A]; rfl
theorem act_M [Dfr] [HasOver] : doom_Active mM.row = some [2, 5] := by
  rw [doom_Active_s tree_M (by decide) set_M]; rfl
theorem bes_A [Dfr] [HasOver] : doom_Beside mA.row 2 = some [(Tm.fin 2 .skip).row] := (doom_Beside_s tree_A (by decide) set_A (k := 2) (by decide)).trans rfl

def mF : Tm := .fin 2 .skip
theorem set_F [Dfr] : mF.row ≠ [] ∧ settleR mF.row = mF.row := by
  refine ⟨Tm.row_ne _, ?_⟩
  rw [settleR_row (by simp only [mF, Tm.fine, Tm.good]; decide) (by decide) (by decide)]
  have : mF.st = mF := by unfold mF; rw [Tm.st_fin]
  rw [this]
theorem set_P [Dfr] : mPair.row ≠ [] ∧ settleR mPair.row = mPair.row := by
  refine ⟨Tm.row_ne _, ?_⟩
  rw [settleR_row (by simp only [mPair, Tm.fine, Tm.good]; decide) (by decide) (by decide)]
  have : mPair.st = mPair := by unfold mPair; rw [Tm.st_pair]
  rw [this]
theorem dmd_F [Dfr] : doom_Doomed mF.row = some true := by
  have h : tree mF.row = some mF.t := tree_row (Tm.t_ok mF)
  rw [doom_Doomed_s h (by decide), decide_eq_true set_F]; rfl
theorem dmd_P [Dfr] : doom_Doomed mPair.row = some false := by
  have h : tree mPair.row = some mPair.t := tree_row (Tm.t_ok mPair)
  rw [doom_Doomed_s h (by decide), decide_eq_true set_P]; rfl
theorem free_A [Dfr] [HasOver] : doom_Free mA.row 2 = some true :=
  (doom_Free_s tree_A (by decide) set_A (k := 2) (by decide) (fun _ => true) (fun x hx => by
    have : x ∈ [mF.row] := hx
    rw [List.mem_singleton.1 this]; exact dmd_F) (by decide)).trans rfl
theorem free_M [Dfr] [HasOver] : doom_Free mM.row 2 = some false :=
  (doom_Free_s tree_M (by decide) set_M (k := 2) (by decide) (fun _ => false) (fun x hx => by
    have : x ∈ [mPair.row] := hx
    rw [List.mem_singleton.1 this]; exact dmd_P) (by decide)).trans rfl

def mQ : Tm := .par mPair mF
def mR : Tm := .par mPair mPair
theorem set_Q [Dfr] : mQ.row ≠ [] ∧ settleR mQ.row = mQ.row := by
  refine ⟨Tm.row_ne _, ?_⟩
  rw [settleR_row (by simp only [mQ, mF, mPair, Tm.fine, Tm.good]; decide) (by decide) (by decide)]
  have : mQ.st = mQ := by unfold mQ mPair mF; rw [Tm.st_par, Tm.st_pair, Tm.st_fin]; rfl
  rw [this]
theorem set_R [Dfr] : mR.row ≠ [] ∧ settleR mR.row = mR.row := by
  refine ⟨Tm.row_ne _, ?_⟩
  rw [settleR_row (by simp only [mR, mPair, Tm.fine, Tm.good]; decide) (by decide) (by decide)]
  have : mR.st = mR := by unfold mR mPair; rw [Tm.st_par, Tm.st_pair]; rfl
  rw [this]
theorem dmd_Q [Dfr] : doom_Doomed mQ.row = some true := by
  have h : tree mQ.row = some mQ.t := tree_row (Tm.t_ok mQ)
  rw [doom_Doomed_s h (by decide), decide_eq_true set_Q]; rfl
theorem dmd_R [Dfr] : doom_Doomed mR.row = some false := by
  have h : tree mR.row = some mR.t := tree_row (Tm.t_ok mR)
  rw [doom_Doomed_s h (by decide), decide_eq_true set_R]; rfl
theorem dmd_A [Dfr] : doom_Doomed mA.row = some false := by
  rw [doom_Doomed_s tree_A (by decide), decide_eq_true set_A]; rfl
theorem free_A3 [Dfr] [HasOver] : doom_Free mA.row 3 = some false := by
  have h := doom_beside_no (l := mA.row) (by decide) 3 (fun t ht _ => by rw [tree_A] at ht; cases ht; decide) (fun _ => ⟨_, tree_A⟩)
  rw [doom_Free_eq, h]
  simp only [Option.bind_some, Bool.not_true, cond_false]
  rw [slices_ContainsFunc__Sapi_Node_s [] _ (fun _ => false) (by decide) (fun x hx => by cases hx)]
  rfl
theorem ints_1 [Dfr] : ref11_Ints [2] [2] = some true := ((ref11_Ints_lim _ _).iff _).2 ⟨6, by kernel_rfl⟩
theorem ints_2 [Dfr] : ref11_Ints [2, 5] [2, 5] = some true := ((ref11_Ints_lim _ _).iff _).2 ⟨6, by kernel_rfl⟩

theorem set_Y [Dfr] : Tm.yield.row ≠ [] ∧ settleR Tm.yield.row = Tm.yield.row := by
  refine ⟨Tm.row_ne _, ?_⟩
  rw [settleR_row (by simp only [Tm.fine, Tm.good]) (by decide) (by decide), Tm.st_yield]
theorem free_Y [Dfr] [HasOver] : doom_Free Tm.yield.row 0 = some true := by
  have h : tree Tm.yield.row = some Tm.yield.t := tree_row (Tm.t_ok _)
  exact (doom_Free_s h (by decide) set_Y (k := 0) (by decide) (fun _ => true) (fun x hx => by
    have : x ∈ ([] : List (List Nd)) := hx
    cases this) (by decide)).trans rfl
theorem act_S [Dfr] [HasOver] : doom_Active Tm.skip.row = some [] := by
  refine doom_Active_no (by decide) fun h => ?_
  have h2 := h.2
  rw [settleR_row (by simp only [Tm.fine, Tm.good]) (by decide) (by decide), Tm.st_skip] at h2
  have h3 := Tm.row_inj h2
  cases h3
theorem same_F [Dfr] : ref03_Same mF.row mF.row = some true := ((ref03_Same_lim _ _).iff _).2 ⟨6, by kernel_rfl⟩

theorem law11_alive_s [Dfr] [HasOver] : law11_alive = some true := by
  rw [law11_alive_eq]
  have eA : ([(9, ByteArray.empty, 0), (7, ByteArray.empty, 0), (10, ByteArray.empty, 0), (1, ⟨#[97]⟩, 0), (1, ⟨#[98]⟩, 0), (14, ByteArray.empty, 2), (2, ByteArray.empty, 0)] : List Nd) = mA.row := rfl
  have eM : ([(9, ByteArray.empty, 0), (7, ByteArray.empty, 0), (10, ByteArray.empty, 0), (1, ⟨#[97]⟩, 0), (1, ⟨#[98]⟩, 0), (10, ByteArray.empty, 0), (1, ⟨#[97]⟩, 0), (1, ⟨#[98]⟩, 0)] : List Nd) = mM.row := rfl
  have eQ : ([(7, ByteArray.empty, 0), (10, ByteArray.empty, 0), (1, ⟨#[97]⟩, 0), (1, ⟨#[98]⟩, 0), (14, ByteArray.empty, 2), (2, ByteArray.empty, 0)] : List Nd) = mQ.row := rfl
  have eR : ([(7, ByteArray.empty, 0), (10, ByteArray.empty, 0), (1, ⟨#[97]⟩, 0), (1, ⟨#[98]⟩, 0), (10, ByteArray.empty, 0), (1, ⟨#[97]⟩, 0), (1, ⟨#[98]⟩, 0)] : List Nd) = mR.row := rfl
  have eF : ([(14, ByteArray.empty, 2), (2, ByteArray.empty, 0)] : List Nd) = mF.row := rfl
  have eY : ([(4, ByteArray.empty, 0)] : List Nd) = Tm.yield.row := rfl
  have eS : ([(2, ByteArray.empty, 0)] : List Nd) = Tm.skip.row := rfl
  rw [eA, eM, eQ, eR, eF, eY, eS]
  simp only [bes_A, act_A, act_M, ints_1, ints_2, dmd_Q, dmd_A, dmd_R, free_A, free_M, free_A3, free_Y, act_S, Option.bind_some, cond_true, Bool.not_false]
  rw [show (([(Tm.fin 2 .skip).row] : List (List Nd)).length : Int) = 1 from rfl, show ix [(Tm.fin 2 .skip).row] 0 = mF.row from rfl, same_F]
  rfl

/-- Whether a block stands whose inside has given way. -/
def isGiven (y : Nd) : Bool := (y.1 == 14) && ((y.2.1.toList == ByteArray.empty.toList) && (y.2.2 == 3))
def gv : List Nd → Bool
  | x :: y :: r => ((x.1 == 9) && isGiven y) || gv (y :: r)
  | _ => false

theorem law11_DoomWaits_l0s [Dfr] (l : List Nd) (hl : l.length ≤ 1000000) : ∀ (r : List Nd) (i : Nat) (b : Bool), l.drop i = r → i ≤ l.length → law11_DoomWaits_l0 l b (i : Int) = some (0, (l, b || gv r))
  | [], i, b, h, hi => by
    obtain ⟨h1, h2⟩ := drop_nil h
    rw [law11_DoomWaits_l0_eq, w_succ (by omega), decide_eq_false (by omega)]
    simp [gv]
  | [x], i, b, h, hi => by
    have := congrArg List.length h
    rw [List.length_drop] at this
    simp only [List.length_cons, List.length_nil] at this
    rw [law11_DoomWaits_l0_eq, w_succ (by omega), decide_eq_false (by omega)]
    simp [gv]
  | x :: y :: r, i, b, h, hi => by
    obtain ⟨h1, h2, h3, h4, h5, h6⟩ := drop_cons h
    obtain ⟨k1, k2, k3, k4, k5, k6⟩ := drop_cons h5
    have ih := fun b => law11_DoomWaits_l0s l hl (y :: r) (i + 1) b h5 (by omega)
    rw [law11_DoomWaits_l0_eq, w_succ (by omega)]
    simp only [k2, cond_true, h3, h4, k3, k4]
    cases b with
    | true => simp only [cond_true]; rw [ih]; simp
    | false =>
      simp only [cond_false]
      rw [gv]
      cases hx : (x.1 == 9) with
      | true =>
        simp only [cond_true]
        rw [ih]
        simp [isGiven]
      | false =>
        simp only [cond_false]
        rw [ih]
        simp

theorem gv_given [Dfr] : ∀ (l : List Nd), givenR l → gv l = true
  | [], ⟨k, h, _⟩ => absurd h (by simp)
  | [x], ⟨k, h, _⟩ => absurd h (by simp)
  | x :: y :: r, ⟨0, h1, h2, h3⟩ => by
    have h2 : x.1 = 9 := h2
    have h3 : y = (14, ByteArray.empty, 3) := h3
    have hg : isGiven (14, ByteArray.empty, 3) = true := by simp [isGiven]
    rw [gv, h2, h3, hg]; simp
  | x :: y :: r, ⟨k + 1, h1, h2, h3⟩ => by
    rw [gv, gv_given (y :: r) ⟨k, by simpa using h1, by simpa using h2, by simpa using h3⟩, Bool.or_true]

theorem set_st [Dfr] {m : Tm} (hf : m.fine) (hs : m.size ≤ 200) (ho : m.po = true ∨ m.qo = true) : m.st.row ≠ [] ∧ settleR m.st.row = m.st.row := by
  refine ⟨Tm.row_ne _, ?_⟩
  have := Tm.st_size m
  rw [settleR_row (Tm.st_fine hf) (by omega) (ho.imp Tm.st_po Tm.st_qo), Tm.st_st]

/-- What is settled: how it begins, and whether a place waits. -/
theorem ends_s [Dfr] {x : Tm} (h : x.waits = true ∨ x.isOver = true ∨ x.isFin = true ∨ x.stuck = true) : ((x.t.hd.1 = 11 ∨ x.t.hd.1 = 14) ∧ x.t.wts 0 = []) ∨ (x.t.hd.1 ≠ 11 ∧ x.t.hd.1 ≠ 14 ∧ (x.t.wts 0 ≠ [] ∨ gv x.row = true)) := by
  have hw : x.waits = true → x.t.wts 0 ≠ [] := (Tm.wts_waits x 0).2
  have hg : x.stuck = true → gv x.row = true := fun h => gv_given _ (Tm.stuck_given h)
  cases x with
  | over s => exact .inl ⟨.inl rfl, rfl⟩
  | fin s c => exact .inl ⟨.inr rfl, rfl⟩
  | _ =>
    right
    refine ⟨by simp [Tm.t, T.hd], by simp [Tm.t, T.hd], ?_⟩
    rcases h with h | h | h | h
    · exact .inl (hw h)
    · cases h
    · cases h
    · exact .inr (hg h)

theorem law11_DoomWaits_true [Dfr] [HasOver] (l : List Nd) (hl : wfRow l) : law11_DoomWaits l = some true := by
  rw [law11_DoomWaits_eq, law11_few_s, Option.bind_some]
  by_cases hf : l.length ≤ 100 ∧ dep l ≤ 24
  · rw [decide_eq_true hf]
    simp only [Bool.not_true, cond_false]
    rw [settle_Settle_s l (by omega), Option.bind_some]
    rcases settleR_cases l with h0 | ⟨m, hm, hfi, hsz, ho, hst, _⟩
    · have hno := doom_Active_no (l := l) (by omega) (fun hs => hs.1 (by rw [← hs.2, h0]))
      rw [h0]
      simp only [law11_alive_s, hno, Option.bind_some]
      rfl
    · rw [hst]
      have hset := set_st hfi hsz ho
      have hlen : m.st.row.length ≤ 200 := by rw [Tm.len_row]; have := Tm.st_size m; omega
      have hpos : 0 < m.st.row.length := by rw [Tm.len_row]; exact Tm.size_pos _
      have htr : tree m.st.row = some m.st.t := tree_row (Tm.t_ok _)
      have hact := doom_Active_s htr (by omega) hset
      have hl0 := law11_DoomWaits_l0s m.st.row (by omega) m.st.row 0 false rfl (Nat.zero_le _)
      rw [Int.natCast_zero] at hl0
      have hne : ((m.st.row.length : Int) == 0) = false := by rw [beq_eq_false_iff_ne]; omega
      have hix : ix m.st.row 0 = m.st.t.hd := by show ix m.st.t.row 0 = _; cases m.st.t <;> rfl
      rcases ends_s (Tm.settled_ends m.st (Tm.settled_st m) (Tm.st_fine hfi) (ho.imp Tm.st_po Tm.st_qo)) with ⟨h1, h2⟩ | ⟨h1, h2, h3⟩
      · rw [h2] at hact
        simp only [hne, cond_false, hl0, Option.bind_some, hact, law11_alive_s, cond_true, idxOk_zero hpos, hix, List.map_nil, List.length_nil]
        rcases h1 with h1 | h1 <;> rw [h1] <;> rfl
      · have e1 : (m.st.t.hd.1 == 11) = false := by rw [beq_eq_false_iff_ne]; exact h1
        have e2 : (m.st.t.hd.1 == 14) = false := by rw [beq_eq_false_iff_ne]; exact h2
        simp only [hne, cond_false, hl0, Option.bind_some, hact, law11_alive_s, cond_true, idxOk_zero hpos, hix, e1, e2, Bool.not_false, Bool.false_or, List.length_map]
        by_cases hw : m.st.t.wts 0 = []
        · have := h3.resolve_left (fun h => h hw)
          rw [hw, this]; rfl
        · have : 0 < (m.st.t.wts 0).length := List.length_pos_iff.2 hw
          rw [decide_eq_true (show ((m.st.t.wts 0).length : Int) > 0 by omega)]; rfl
  · rw [decide_eq_false hf]
    simp only [Bool.not_false, cond_true, law11_alive_s, Option.bind_some]
end Go.Proofs.YtdbabacjmkfkgaaDoor.Sv
