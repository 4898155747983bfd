/- Of what is settled: how it may look, that it is less. Plain Lean, no program in sight. -/
import Derived.Test.YtjogkjgpbeenfaaDoorM4
namespace Go.Rd
open Go Go.Sv
set_option linter.unusedVariables false
set_option linter.unusedSimpArgs false
def wfNd (n : Nd) : Prop := (Lit.int .i64 n.1).wf = true ∧ n.2.1.size ≤ reachBytes ∧ (Lit.int .i64 n.2.2).wf = true
def wfRow (l : List Nd) : Prop := l.length ≤ reachBytes ∧ ∀ x ∈ l, wfNd x
theorem wfRow.names {l : List Nd} (h : wfRow l) : ∀ n ∈ l, n.2.1.size ≤ 9223372036854775807 := fun n hn => by
  have := (h.2 n hn).2.1
  unfold reachBytes at this
  omega
namespace Tm
def isOver : Tm → Bool
  | over _ => true
  | _ => false
def isFin : Tm → Bool
  | fin _ _ => true
  | _ => false
/-! ### what is settled, by its parts -/
theorem settled_hand {a b : Tm} (h : (hand a b).settled) : a.settled ∧ a.isOver = false := by
  unfold settled at h ⊢
  rw [st_hand] at h
  have hb := b.st_size
  generalize hx : a.st = x at h
  cases x <;> simp only [hand'] at h <;> first | (injection h with h1 h2; subst h1; exact ⟨rfl, rfl⟩) | skip
  split at h
  · have := congrArg size h; rw [size_hand] at this; omega
  · cases h
theorem settled_seq {a b : Tm} (h : (seq a b).settled) : a.settled ∧ a.isOver = false ∧ a.isFin = false := by
  unfold settled at h ⊢
  rw [st_seq] at h
  have hb := b.st_size
  generalize hx : a.st = x at h
  cases x <;> simp only [seq'] at h <;> first | (injection h with h1 h2; subst h1; exact ⟨rfl, rfl, rfl⟩) | skip
  · split at h
    · have := congrArg size h; rw [size_seq] at this; omega
    · cases h
  · split at h
    · generalize b.st = y at h
      cases y <;> simp only [stack'] at h <;> cases h
    · cases h
theorem settled_going {a b : Tm} (h : (going a b).settled) : a.settled ∧ a.isOver = false := by
  unfold settled at h ⊢
  rw [st_going] at h
  generalize hx : a.st = x at h
  cases x <;> simp only [going'] at h <;> first | (injection h with h1 h2; subst h1; exact ⟨rfl, rfl⟩) | skip
  split at h <;> cases h
theorem settled_stack {a b : Tm} (h : (stack a b).settled) : a.settled ∧ a.isFin = false := by
  unfold settled at h ⊢
  rw [st_stack] at h
  generalize hx : a.st = x at h
  cases x <;> simp only [stack'] at h <;> first | (injection h with h1 h2; subst h1; exact ⟨rfl, rfl⟩) | cases h
theorem settled_par {a b : Tm} (h : (par a b).settled) : a.settled ∧ b.settled ∧ (a.isOver = false ∨ b.isOver = false) ∧ (a.isFin = false ∨ b.isFin = false) := by
  unfold settled at h ⊢
  rw [st_par] at h
  rcases par'_cases a.st b.st with ⟨s, z, _, _, e⟩ | ⟨s, c, z, d, _, _, e⟩ | e
  · rw [e] at h; cases h
  · rw [e] at h; cases h
  · have h0 := h
    rw [e] at h
    injection h with h1 h2
    refine ⟨h1, h2, ?_, ?_⟩
    · cases ha : a.isOver with
      | false => exact .inl rfl
      | true =>
        cases hb : b.isOver with
        | false => exact .inr rfl
        | true =>
          exfalso
          rw [h1, h2] at h0
          cases a <;> cases ha
          cases b <;> cases hb
          cases h0
    · cases ha : a.isFin with
      | false => exact .inl rfl
      | true =>
        cases hb : b.isFin with
        | false => exact .inr rfl
        | true =>
          exfalso
          rw [h1, h2] at h0
          cases a <;> cases ha
          cases b <;> cases hb
          cases h0
theorem settled_block {a : Tm} (h : (block a).settled) : a.settled ∧ (∀ s c, a = fin s c → s ≠ 1 ∧ s ≠ 2) := by
  unfold settled at h ⊢
  rw [st_block] at h
  have hsz := a.st_size
  generalize hx : a.st = x at h hsz
  cases x <;> simp only [block'] at h <;> first | (injection h with h1; subst h1; exact ⟨rfl, fun s c e => by cases e⟩) | skip
  rename_i s c
  split at h
  · cases h
  · split at h
    · have h3 := congrArg size h
      have h4 := c.st_size
      rw [size_fin] at hsz
      rw [size_block] at h3
      omega
    · rename_i h1 h2
      injection h with h3
      subst h3
      exact ⟨rfl, fun s' c' e => by injection e with e1 _; rw [← e1]; exact ⟨h1, h2⟩⟩
/-- Something is to be done, or chosen, where a tree goes on. -/
def waits : Tm → Bool
  | act _ | alt _ _ | yield | pair _ _ => true
  | seq a _ | hand a _ | going a _ | stack a _ | block a => a.waits
  | par a b => a.waits || b.waits
  | _ => false
section
variable (w : Nd → Nat)
/-- What settling makes weighs nothing. -/
structure Light : Prop where
  skip : w (nd 2) = 0
  over : ∀ s, w (11, ByteArray.empty, s) = 0
  fin : ∀ s, w (14, ByteArray.empty, s) = 0
  seq : w (nd 5) = 0
  stack : w (nd 13) = 0
end
end Tm
end Go.Rd
