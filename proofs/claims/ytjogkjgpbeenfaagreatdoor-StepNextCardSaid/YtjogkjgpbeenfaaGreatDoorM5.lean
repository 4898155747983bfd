/- Of what is settled: how it may look, that it is less. Plain Lean, no program in sight. -/
import Derived.Test.YtjogkjgpbeenfaaGreatDoorM4
namespace Go.Rd
open Go Go.Sv
set_option linter.unusedVariables false
set_option linter.unusedSimpArgs false
def wfNd (n : Nd) : Prop := (Lit.int .i64 n.1).wf = true ∧ n.2.1.size ≤ reachBytes ∧ (Lit.int .i64 n.2.2).wf = true
def wfRow (l : List Nd) : Prop := l.length ≤ reachBytes ∧ ∀ x ∈ l, wfNd x
theorem wfRow.names {l : List Nd} (h : wfRow l) : ∀ n ∈ l, n.2.1.size ≤ 9223372036854775807 := fun n hn => by
  have := (h.2 n hn).2.1
  unfold reachBytes at this
  omega
namespace Tm
/-- Something is to be done, or chosen, where a tree goes on. -/
def waits : Tm → Bool
  | act _ | alt _ _ | yield | pair _ _ => true
  | seq a _ | hand a _ | going a _ | stack a _ | block a => a.waits
  | par a b => a.waits || b.waits
  | _ => false
/-! ### what is settled is less -/
def wt (w : Nd → Nat) (m : Tm) : Nat := (m.row.map w).sum
section
variable (w : Nd → Nat)
theorem wt_seq (a b : Tm) : (seq a b).wt w = w (nd 5) + (a.wt w + b.wt w) := by simp [wt, row_seq]
theorem wt_par (a b : Tm) : (par a b).wt w = w (nd 7) + (a.wt w + b.wt w) := by simp [wt, row_par]
theorem wt_hand (a b : Tm) : (hand a b).wt w = w (nd 8) + (a.wt w + b.wt w) := by simp [wt, row_hand]
theorem wt_block (a : Tm) : (block a).wt w = w (nd 9) + a.wt w := by simp [wt, row_block]
theorem wt_going (a b : Tm) : (going a b).wt w = w (nd 12) + (a.wt w + b.wt w) := by simp [wt, row_going]
theorem wt_stack (a b : Tm) : (stack a b).wt w = w (nd 13) + (a.wt w + b.wt w) := by simp [wt, row_stack]
theorem wt_fin (s : Int) (a : Tm) : (fin s a).wt w = w (14, ByteArray.empty, s) + a.wt w := by simp [wt, row_fin]
theorem wt_over (s : Int) : (over s).wt w = w (11, ByteArray.empty, s) := by simp [wt]
theorem wt_skip : skip.wt w = w (nd 2) := by simp [wt]
/-- What settling makes weighs nothing. -/
structure Light : Prop where
  skip : w (nd 2) = 0
  over : ∀ s, w (11, ByteArray.empty, s) = 0
  fin : ∀ s, w (14, ByteArray.empty, s) = 0
  seq : w (nd 5) = 0
  stack : w (nd 13) = 0
theorem wt_st (L : Light w) : ∀ m : Tm, m.st.wt w ≤ m.wt w := by
  intro m
  refine size_ind (p := fun m => m.st.wt w ≤ m.wt w) (fun m ih => ?_) m
  have hst : ∀ x c : Tm, (stack' x c).wt w ≤ x.wt w + c.wt w := fun x c => by
    cases x <;> simp only [stack'] <;> first | (rw [wt_stack, L.stack]; omega) | skip
    rename_i s d
    rw [wt_fin, wt_seq, wt_fin, L.fin, L.seq]; omega
  cases m with
  | act s => rw [st_act]; exact Nat.le_refl _
  | skip => rw [st_skip, wt_over, L.over]; omega
  | throw => rw [st_throw, wt_over, L.over]; omega
  | yield => rw [st_yield]; exact Nat.le_refl _
  | over s => rw [st_over]; exact Nat.le_refl _
  | alt a b => rw [st_alt]; exact Nat.le_refl _
  | pair a b => rw [st_pair]; exact Nat.le_refl _
  | fin s a => rw [st_fin]; exact Nat.le_refl _
  | hand a b =>
    have h1 := ih a (by rw [size_hand]; omega)
    have h2 := ih b (by rw [size_hand]; omega)
    rw [st_hand, wt_hand]
    generalize a.st = x at h1
    cases x <;> simp only [hand'] <;> first | (rw [wt_hand]; omega) | skip
    split
    · omega
    · rw [wt_over, L.over]; omega
  | seq a b =>
    have h1 := ih a (by rw [size_seq]; omega)
    have h2 := ih b (by rw [size_seq]; omega)
    rw [st_seq, wt_seq]
    generalize a.st = x at h1
    cases x <;> simp only [seq'] <;> first | (rw [wt_seq]; omega) | skip
    · split
      · omega
      · rw [wt_over, L.over]; omega
    · rename_i s c
      split
      · rw [wt_fin, L.fin] at h1
        have := hst b.st c
        omega
      · omega
  | stack a c =>
    have h1 := ih a (by rw [size_stack]; omega)
    rw [st_stack, wt_stack]
    have := hst a.st c
    omega
  | going a b =>
    have h1 := ih a (by rw [size_going]; omega)
    rw [st_going, wt_going]
    generalize a.st = x at h1
    cases x <;> simp only [going'] <;> first | (rw [wt_going]; omega) | skip
    split
    · rw [wt_fin, L.fin]; omega
    · rw [wt_fin, L.fin, wt_skip, L.skip]; omega
  | par a b =>
    have h1 := ih a (by rw [size_par]; omega)
    have h2 := ih b (by rw [size_par]; omega)
    rw [st_par, wt_par]
    rcases par'_cases a.st b.st with ⟨s, z, _, _, e⟩ | ⟨s, c, z, d, e1, e2, e⟩ | e
    · rw [e, wt_over, L.over]; omega
    · rw [e, wt_fin, wt_par, L.fin]
      rw [e1, wt_fin, L.fin] at h1
      rw [e2, wt_fin, L.fin] at h2
      omega
    · rw [e, wt_par]; omega
  | block a =>
    have h1 := ih a (by rw [size_block]; omega)
    have hsz := a.st_size
    rw [st_block, wt_block]
    generalize a.st = x at h1 hsz
    cases x <;> simp only [block'] <;> first | (rw [wt_block]; omega) | skip
    rename_i s c
    rw [wt_fin, L.fin] at h1
    split
    · rw [wt_over, L.over]; omega
    · split
      · have := ih c (by rw [size_block]; rw [size_fin] at hsz; omega)
        omega
      · rw [wt_block, wt_fin, L.fin]; omega
end
end Tm
end Go.Rd
