/- What package mean, and its reference, tell of any row. -/
import Derived.Test.YthhefjmdfdckjaaGreatDoorR07b
import Derived.Test.YthhefjmdfdckjaaGreatDoorL02
namespace Go.Proofs.YthhefjmdfdckjaaGreatDoor.Sv
open Go Go.Sv Go.Rd
set_option linter.unusedVariables false
set_option linter.unusedSimpArgs false

/-- Few nodes, few actions. -/
def smallR (l : List Nd) : Prop := l.length ≤ 24 ∧ (l.countP fun x => decide (x.1 ∈ ([1] : List Int))) ≤ 6

instance (l : List Nd) : Decidable (smallR l) := by unfold smallR; infer_instance

theorem smallR_row [Dfr] {m : Tm} : smallR m.row ↔ m.small := by
  unfold smallR Tm.small
  rw [Tm.len_row, Tm.nm_row]

noncomputable def trL (l : List Nd) : List Tc := match tmOf l with | some m => m.tr | none => []

noncomputable def pqL (l : List Nd) : List Qc := match tmOf l with | some m => m.pq | none => []

theorem trL_row [Dfr] {m : Tm} (h : m.fine) (hs : m.size ≤ 200) : trL m.row = m.tr := by
  unfold trL; rw [tmOf_some.2 ⟨rfl, h, hs⟩]

theorem pqL_row [Dfr] {m : Tm} (h : m.fine) (hs : m.size ≤ 200) : pqL m.row = m.pq := by
  unfold pqL; rw [tmOf_some.2 ⟨rfl, h, hs⟩]

noncomputable def plainR (l : List Nd) : List Tc × Int := if on (sOf l) = 3 then (if smallR l then (trL l, 0) else ([], 70)) else ([], 1)

noncomputable def pairedR (l : List Nd) : List Qc × Int := if on (sOf l) = 4 then (if smallR l then (pqL l, 0) else ([], 70)) else ([], 1)

noncomputable def backR (l : List Nd) : List Tc × Int := if on (sOf l) = 4 then (if smallR l then (canon cmpT ((pqL l).map (·.2)), 0) else ([], 70)) else ([], 1)

theorem on_term [Dfr] {l : List Nd} (h : on (sOf l) = 3 ∨ on (sOf l) = 4) : ∃ m : Tm, l = m.row ∧ m.fine ∧ m.size ≤ 200 ∧ (on (sOf l) = 3 → m.po = true) ∧ (on (sOf l) = 4 → m.qo = true) := by
  obtain ⟨m, h1, h2, h3, h4⟩ := sOf_pos (l := l) (by intro e; rw [e] at h; revert h; decide)
  exact ⟨m, h1, h2, h3, fun e => by rw [Tm.so_po, ← h4]; exact decide_eq_true e, fun e => by rw [Tm.so_qo, ← h4]; exact decide_eq_true e⟩

theorem mean_Small_s [Dfr] (l : List Nd) : mean_Small l = some (decide (smallR l)) := by
  rw [mean_Small_eq]
  by_cases h : l.length ≤ 24
  · rw [decide_eq_true (show (l.length : Int) ≤ 24 by omega), cond_true, row_Count_s l [1] (by omega) (by simp), Option.bind_some]
    exact congrArg some (decide_eq_decide.2 (by unfold smallR; omega))
  · rw [decide_eq_false (show ¬ (l.length : Int) ≤ 24 by omega), cond_false, decide_eq_false (fun h' : smallR l => h h'.1)]

theorem short_back [Dfr] {m : Tm} (h : m.small) : shortT (m.pq.map (·.2)) := fewT.short fun x hx => by
  obtain ⟨z, hz, rfl⟩ := List.mem_map.1 hx
  have := sm_shortQ h z hz; omega

theorem told_T [Dfr] (l : List Nd) (hl : l.length ≤ 4611686018427387904) (b : Bool) (fv : FnV) (r : List Tc) (hr : on (sOf l) = (if b then 4 else 3) → smallR l → dyn E fv [.one (.slice 39 (.pair (.int .i64) (.pair .str (.int .i64))) l .no)] (.slice 49 (.pair (.slice 9 .str) (.int .i64))) = some r) :
    mean_told__trace_Trace l b fv = some (if on (sOf l) = (if b then 4 else 3) then (if smallR l then (r, 0) else ([], 70)) else ([], 1)) := by
  rw [mean_told__trace_Trace_eq, sort_On_s l b hl, Option.bind_some]
  by_cases h : on (sOf l) = (if b then 4 else 3)
  · rw [decide_eq_true h, if_pos h, mean_Small_s]
    simp only [Bool.not_true, cond_false, Option.bind_some]
    by_cases hs : smallR l
    · rw [decide_eq_true hs, if_pos hs, hr h hs]; rfl
    · rw [decide_eq_false hs, if_neg hs]; rfl
  · rw [decide_eq_false h, if_neg h]; rfl

theorem mean_Plain_s [Dfr] [HasMix] (l : List Nd) (hl : l.length ≤ 4611686018427387904) : mean_Plain l = some (plainR l) := by
  rw [mean_Plain_eq, told_T l hl false _ (trL l) fun h hs => ?_]
  · rfl
  · obtain ⟨m, rfl, hf, hz, hp, _⟩ := on_term (l := l) (.inl h)
    rw [trL_row hf hz]
    exact (mean_plain_dyn m.row).trans ((mean_s m (smallR_row.1 hs)).1 (hp h))

/-! ### how long they are -/
theorem plainR_few [Dfr] (l : List Nd) : fewT (plainR l).1 ∧ (plainR l).1.length ≤ 400000000 ∧ Srt cmpT (plainR l).1 := by
  unfold plainR
  split
  · rename_i h
    split
    · rename_i hs
      obtain ⟨m, rfl, hf, hz, _, _⟩ := on_term (l := l) (.inl h)
      rw [trL_row hf hz]
      have hm := smallR_row.1 hs
      exact ⟨fun x hx => by have := sm_short hm x hx; omega, (sm_len hm).1, Tm.srt_tr m⟩
    · exact ⟨fun x hx => (by cases hx), Nat.zero_le _, .nil⟩
  · exact ⟨fun x hx => (by cases hx), Nat.zero_le _, .nil⟩

theorem pairedR_few [Dfr] (l : List Nd) : fewQ (pairedR l).1 ∧ (pairedR l).1.length ≤ 400000000 := by
  unfold pairedR
  split
  · rename_i h
    split
    · rename_i hs
      obtain ⟨m, rfl, hf, hz, _, _⟩ := on_term (l := l) (.inr h)
      rw [pqL_row hf hz]
      have hm := smallR_row.1 hs
      exact ⟨fun x hx => by have := sm_shortQ hm x hx; omega, (sm_len hm).2⟩
    · exact ⟨fun x hx => (by cases hx), Nat.zero_le _⟩
  · exact ⟨fun x hx => (by cases hx), Nat.zero_le _⟩

theorem backR_few [Dfr] (l : List Nd) : fewT (backR l).1 ∧ (backR l).1.length ≤ 400000000 := by
  unfold backR
  split
  · rename_i h
    split
    · rename_i hs
      obtain ⟨m, rfl, hf, hz, _, _⟩ := on_term (l := l) (.inr h)
      rw [pqL_row hf hz]
      have hm := smallR_row.1 hs
      have hc := length_canon_le (c := cmpT) (m.pq.map (·.2))
      rw [List.length_map] at hc
      exact ⟨fun x hx => by
        obtain ⟨z, hz, rfl⟩ := List.mem_map.1 ((mem_canon ordT).1 hx)
        have := sm_shortQ hm z hz; omega, Nat.le_trans hc (sm_len hm).2⟩
    · exact ⟨fun x hx => (by cases hx), Nat.zero_le _⟩
  · exact ⟨fun x hx => (by cases hx), Nat.zero_le _⟩

theorem plainR_row [Dfr] {m : Tm} (hf : m.fine) (hz : m.size ≤ 200) (ho : m.po = true) (hs : m.small) : plainR m.row = (m.tr, 0) := by
  unfold plainR
  rw [sOf_row hf hz, if_pos (of_decide_eq_true ((Tm.so_po m).symm.trans ho)), if_pos (smallR_row.2 hs), trL_row hf hz]

theorem pairedR_row [Dfr] {m : Tm} (hf : m.fine) (hz : m.size ≤ 200) (ho : m.qo = true) (hs : m.small) : pairedR m.row = (m.pq, 0) := by
  unfold pairedR
  rw [sOf_row hf hz, if_pos (of_decide_eq_true ((Tm.so_qo m).symm.trans ho)), if_pos (smallR_row.2 hs), pqL_row hf hz]

theorem backR_row [Dfr] {m : Tm} (hf : m.fine) (hz : m.size ≤ 200) (ho : m.qo = true) (hs : m.small) : backR m.row = (canon cmpT (m.pq.map (·.2)), 0) := by
  unfold backR
  rw [sOf_row hf hz, if_pos (of_decide_eq_true ((Tm.so_qo m).symm.trans ho)), if_pos (smallR_row.2 hs), pqL_row hf hz]
end Go.Proofs.YthhefjmdfdckjaaGreatDoor.Sv
