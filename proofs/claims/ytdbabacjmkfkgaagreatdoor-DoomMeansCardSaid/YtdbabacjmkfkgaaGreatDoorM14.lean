/- What will end by a throw has no trace that ends otherwise. Plain Lean, no program in sight. -/
import Derived.Test.YtdbabacjmkfkgaaGreatDoorM12
import Derived.Test.YtdbabacjmkfkgaaGreatDoorM13
namespace Go.Rd
open Go Go.Sv
set_option linter.unusedVariables false
set_option linter.unusedSimpArgs false
namespace Tm
theorem bs_two {s : Int} (h : signB s = true) : bs 2 s = 2 ∧ bs s 2 = 2 := by
  rcases signB_iff.1 h with rfl | rfl | rfl <;> exact ⟨rfl, rfl⟩
theorem bang_ends : ∀ m : Tm, m.fine → m.t.bang = true → (∀ x ∈ m.tr, x.2 = 2) ∧ (∀ x ∈ m.pq, x.1.2 = 2)
  | act s, _, h | skip, _, h | throw, _, h | yield, _, h => by simp [t, T.bang] at h
  | alt a b, _, h | hand a b, _, h | pair a b, _, h => by simp [t, T.bang] at h
  | block a, _, h => by simp [t, T.bang] at h
  | over s, _, h => by
    have hs : s = 2 := by simpa [t, T.bang] using h
    refine ⟨fun x hx => ?_, fun x hx => (by cases hx)⟩
    rw [mem_tr_over.1 hx, hs]
  | fin s c, _, h => by
    have hs : s = 2 := by simpa [t, T.bang] using h
    refine ⟨fun x hx => (by cases hx), fun x hx => ?_⟩
    obtain ⟨q, _, rfl⟩ := mem_pq_fin.1 hx
    exact hs
  | seq a b, hf, h => by
    have ha := bang_ends a hf.1 (by simpa [t, T.bang] using h)
    refine ⟨fun x hx => ?_, fun x hx => ?_⟩
    · obtain ⟨p, hp, q, hq, rfl⟩ := mem_tr_seq.1 hx
      have := ha.1 p hp
      unfold thenT
      rw [if_neg (by rw [this]; decide)]
      exact this
    · obtain ⟨p, hp, q, hq, rfl⟩ := mem_pq_seq.1 hx
      have := ha.2 p hp
      unfold seqF
      rw [if_neg (by rw [this]; decide)]
      exact this
  | going a b, hf, h => by
    have ha := bang_ends a hf.1 (by simpa [t, T.bang] using h)
    refine ⟨fun x hx => (by cases hx), fun x hx => ?_⟩
    obtain ⟨p, hp, q, hq, rfl⟩ := mem_pq_going.1 hx
    exact ha.1 p hp
  | stack a c, hf, h => by
    have ha := bang_ends a hf.1 (by simpa [t, T.bang] using h)
    refine ⟨fun x hx => (by cases hx), fun x hx => ?_⟩
    obtain ⟨p, hp, q, hq, rfl⟩ := mem_pq_stack.1 hx
    exact ha.2 p hp
  | par a b, hf, h => by
    have hh : a.t.bang = true ∨ b.t.bang = true := by simpa [t, T.bang] using h
    refine ⟨fun x hx => ?_, fun x hx => ?_⟩
    · obtain ⟨p, hp, q, hq, _, e⟩ := mem_tr_par.1 hx
      rw [e]
      rcases hh with h | h
      · rw [(bang_ends a hf.1 h).1 p hp]; exact (bs_two ((ends_tr b hf.2).1 q hq)).1
      · rw [(bang_ends b hf.2 h).1 q hq]; exact (bs_two ((ends_tr a hf.1).1 p hp)).2
    · obtain ⟨p, hp, q, hq, ⟨_, e⟩, _⟩ := mem_pq_par.1 hx
      rw [e]
      rcases hh with h | h
      · rw [(bang_ends a hf.1 h).2 p hp]; exact (bs_two ((ends_tr b hf.2).2 q hq).1).1
      · rw [(bang_ends b hf.2 h).2 q hq]; exact (bs_two ((ends_tr a hf.1).2 p hp).1).2
end Tm
end Go.Rd
