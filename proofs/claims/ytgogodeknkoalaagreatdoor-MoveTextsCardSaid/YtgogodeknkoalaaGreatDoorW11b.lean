/- What package doom tells of any place: in plain words. -/
import Derived.Test.YtgogodeknkoalaaGreatDoorW11
import Derived.Test.YtgogodeknkoalaaGreatDoorL10
namespace Go.Proofs.YtgogodeknkoalaaGreatDoor.Sv
open Go Go.Sv Go.Rd
set_option linter.unusedVariables false
set_option linter.unusedSimpArgs false
/-- A tree that is settled. -/
def setL (l : List Nd) : Prop := l ≠ [] ∧ settleR l = l
theorem set_term [Dfr] {l : List Nd} (h : setL l) : ∃ m : Tm, l = m.row ∧ m.fine ∧ m.size ≤ 200 ∧ (m.po = true ∨ m.qo = true) ∧ m.st = m ∧ sOf l = m.so := by
  obtain ⟨h0, h1⟩ := h
  rcases settleR_cases l with h2 | ⟨m, hm, hf, hs, ho, hst, hso⟩
  · rw [h2] at h1; exact absurd h1.symm h0
  · refine ⟨m, hm, hf, hs, ho, ?_, hso⟩
    rw [h1, hm] at hst
    exact (Tm.row_inj hst).symm
theorem term_set [Dfr] {m : Tm} (hf : m.fine) (hs : m.size ≤ 200) (ho : m.po = true ∨ m.qo = true) (h : m.st = m) : setL m.row := by
  refine ⟨Tm.row_ne _, ?_⟩
  rw [settleR_row hf hs ho, h]
/-- Whether what stands there will end by a throw. -/
noncomputable def dmL (x : List Nd) : Bool := (@decide (setL x) (Classical.propDecidable _)) && (match tree x with | some t => t.bang | none => false)
theorem doom_dm [Dfr] {c : T} (hok : c.ok) (hs : c.size ≤ 1000000) : doom_Doomed c.row = some (dmL c.row) := by
  rw [doom_Doomed_s (tree_row hok) (by rw [T.len_row]; exact hs)]
  unfold dmL
  rw [tree_row hok]
  congr 2
  by_cases h : setL c.row
  · rw [decide_eq_true (p := c.row ≠ [] ∧ settleR c.row = c.row) h]
    exact (@decide_eq_true _ (Classical.propDecidable _) h).symm
  · rw [decide_eq_false (p := c.row ≠ [] ∧ settleR c.row = c.row) h]
    exact (@decide_eq_false _ (Classical.propDecidable _) h).symm
theorem bes_len [Dfr] : ∀ p : List (Nat × Nat × T), (besideP p).1.length ≤ p.length
  | [] => by simp [besideP]
  | x :: p => by
    have ih := bes_len p
    rw [besideP]
    split
    · simp; omega
    · split
      · simp; omega
      · simp; omega
theorem bes_tree [Dfr] {t : T} (hok : t.ok) {i k : Nat} {y : List Nd} (h : y ∈ (besideP (t.path i k)).1) : ∃ c : T, c.ok ∧ c.size ≤ t.size ∧ y = c.row := by
  obtain ⟨x, hx, h7, rfl⟩ := bes_mem h
  exact (path_in t i k hok x hx).2 h7
/-- Whether a place may give way. -/
noncomputable def freeT (t : T) (k : Nat) : Bool := !(besideP (t.path 0 k)).2 || (besideP (t.path 0 k)).1.any dmL
theorem doom_Free_in [Dfr] [HasOver] {l : List Nd} {t : T} (ht : tree l = some t) (hl : l.length ≤ 1000000) (hs : setL l) {k : Nat} (hk : k ∈ t.wts 0) : doom_Free l (k : Int) = some (freeT t k) := by
  obtain ⟨hok, hrow⟩ := tree_iff.1 ht
  have hlen : l.length = t.size := by rw [hrow, T.len_row]
  refine doom_Free_s ht hl hs hk dmL (fun x hx => ?_) ?_
  · obtain ⟨c, c1, c2, rfl⟩ := bes_tree hok hx
    exact doom_dm c1 (by omega)
  · have h1 := bes_len (t.path 0 k)
    have h2 := T.path_len t 0 k
    omega
theorem wts_len' [Dfr] (t : T) : (t.wts 0).length ≤ t.size := by
  rw [wts_filter t.row t 0 [] (by rw [List.drop_zero, List.append_nil])]
  have := List.length_filter_le (fun k => waitK (t.row.getD k default).1 && !idleP (t.path 0 k)) (List.range' 0 t.size)
  rw [List.length_range'] at this
  exact this
end Go.Proofs.YtgogodeknkoalaaGreatDoor.Sv
