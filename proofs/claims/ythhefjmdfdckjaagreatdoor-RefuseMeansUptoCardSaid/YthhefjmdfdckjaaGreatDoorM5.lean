/- Of what is settled: how it may look, that it is less. Plain Lean, no program in sight. -/
import Derived.Test.YthhefjmdfdckjaaGreatDoorM4
namespace Go.Rd
open Go Go.Sv
set_option linter.unusedVariables false
set_option linter.unusedSimpArgs false

def wfNd (n : Nd) : Prop := (Lit.int .i64 n.1).wf = true ∧ n.2.1.size ≤ reachBytes ∧ (Lit.int .i64 n.2.2).wf = true

def wfRow (l : List Nd) : Prop := l.length ≤ reachBytes ∧ ∀ x ∈ l, wfNd x

theorem wfRow.names {l : List Nd} (h : wfRow l) : ∀ n ∈ l, n.2.1.size ≤ 9223372036854775807 := fun n hn => by
  have := (h.2 n hn).2.1
  unfold reachBytes at this
  omega

namespace Tm
def isOver : Tm → Bool
  | over _ => true
  | _ => false

def isFin : Tm → Bool
  | fin _ _ => true
  | _ => false

/-! ### what is settled, by its parts -/
theorem settled_hand {a b : Tm} (h : (hand a b).settled) : a.settled ∧ a.isOver = false := by
  unfold settled at h ⊢
  rw [st_hand] at h
  have hb := b.st_size
  generalize hx : a.st = x at h
  cases x <;> simp only [hand'] at h <;> first | (injection h with h1 h2; subst h1; exact ⟨rfl, rfl⟩) | skip
  split at h
  · have := congrArg size h; rw [size_hand] at this; omega
  · cases h

theorem settled_seq {a b : Tm} (h : (seq a b).settled) : a.settled ∧ a.isOver = false ∧ a.isFin = false := by
  unfold settled at h ⊢
  rw [st_seq] at h
  have hb := b.st_size
  generalize hx : a.st = x at h
  cases x <;> simp only [seq'] at h <;> first | (injection h with h1 h2; subst h1; exact ⟨rfl, rfl, rfl⟩) | skip
  · split at h
    · have := congrArg size h; rw [size_seq] at this; omega
    · cases h
  · split at h
    · generalize b.st = y at h
      cases y <;> simp only [stack'] at h <;> cases h
    · cases h

theorem settled_going {a b : Tm} (h : (going a b).settled) : a.settled ∧ a.isOver = false := by
  unfold settled at h ⊢
  rw [st_going] at h
  generalize hx : a.st = x at h
  cases x <;> simp only [going'] at h <;> first | (injection h with h1 h2; subst h1; exact ⟨rfl, rfl⟩) | skip
  split at h <;> cases h

theorem settled_stack {a b : Tm} (h : (stack a b).settled) : a.settled ∧ a.isFin = false := by
  unfold settled at h ⊢
  rw [st_stack] at h
  generalize hx : a.st = x at h
  cases x <;> simp only [stack'] at h <;> first | (injection h with h1 h2; subst h1; exact ⟨rfl, rfl⟩) | cases h

theorem settled_par {a b : Tm} (h : (par a b).settled) : a.settled ∧ b.settled ∧ (a.isOver = false ∨ b.isOver = false) ∧ (a.isFin = false ∨ b.isFin = false) := by
  unfold settled at h ⊢
  rw [st_par] at h
  rcases par'_cases a.st b.st with ⟨s, z, _, _, e⟩ | ⟨s, c, z, d, _, _, e⟩ | e
  · rw [e] at h; cases h
  · rw [e] at h; cases h
  · have h0 := h
    rw [e] at h
    injection h with h1 h2
    refine ⟨h1, h2, ?_, ?_⟩
    · cases ha : a.isOver with
      | false => exact .inl rfl
      | true =>
        cases hb : b.isOver with
        | false => exact .inr rfl
        | true =>
          exfalso
          rw [h1, h2] at h0
          cases a <;> cases ha
          cases b <;> cases hb
          cases h0
    · cases ha : a.isFin with
      | false => exact .inl rfl
      | true =>
        cases hb : b.isFin with
        | false => exact .inr rfl
        | true =>
          exfalso
          rw [h1, h2] at h0
          cases a <;> cases ha
          cases b <;> cases hb
          cases h0

theorem settled_block {a : Tm} (h : (block a).settled) : a.settled ∧ (∀ s c, a = fin s c → s ≠ 1 ∧ s ≠ 2) := by
  unfold settled at h ⊢
  rw [st_block] at h
  have hsz := a.st_size
  generalize hx : a.st = x at h hsz
  cases x <;> simp only [block'] at h <;> first | (injection h with h1; subst h1; exact ⟨rfl, fun s c e => by cases e⟩) | skip
  rename_i s c
  split at h
  · cases h
  · split at h
    · have h3 := congrArg size h
      have h4 := c.st_size
      rw [size_fin] at hsz
      rw [size_block] at h3
      omega
    · rename_i h1 h2
      injection h with h3
      subst h3
      exact ⟨rfl, fun s' c' e => by injection e with e1 _; rw [← e1]; exact ⟨h1, h2⟩⟩

/-- Something is to be done, or chosen, where a tree goes on. -/
def waits : Tm → Bool
  | act _ | alt _ _ | yield | pair _ _ => true
  | seq a _ | hand a _ | going a _ | stack a _ | block a => a.waits
  | par a b => a.waits || b.waits
  | _ => false
/-- There is a block, where a tree goes on, whose inside has given way. -/
def stuck : Tm → Bool
  | block a => (match a with | fin s _ => decide (s = 3) | _ => false) || a.stuck
  | seq a _ | hand a _ | going a _ | stack a _ => a.stuck
  | par a b => a.stuck || b.stuck
  | _ => false

theorem settled_ends : ∀ m : Tm, m.settled → m.fine → (m.po = true ∨ m.qo = true) → m.waits = true ∨ m.isOver = true ∨ m.isFin = true ∨ m.stuck = true := by
  intro m
  induction m with
  | act s | yield | alt a b _ _ | pair a b _ _ => intro _ _ _; exact .inl rfl
  | skip => intro h; unfold settled at h; rw [st_skip] at h; cases h
  | throw => intro h; unfold settled at h; rw [st_throw] at h; cases h
  | over s => intro _ _ _; exact .inr (.inl rfl)
  | fin s a _ => intro _ _ _; exact .inr (.inr (.inl rfl))
  | hand a b iha ihb =>
    intro h hf ho
    obtain ⟨h1, h2⟩ := settled_hand h
    have hp : a.po = true := by
      rcases ho with h | h
      · simp only [po, Bool.and_eq_true] at h; exact h.1
      · cases h
    rcases iha h1 hf.1 (.inl hp) with k | k | k | k
    · exact .inl k
    · rw [h2] at k; cases k
    · cases a <;> first | (cases k; done) | (cases hp; done)
    · exact .inr (.inr (.inr k))
  | seq a b iha ihb =>
    intro h hf ho
    obtain ⟨h1, h2, h3⟩ := settled_seq h
    have hp : a.po = true ∨ a.qo = true := by
      rcases ho with h | h
      · simp only [po, Bool.and_eq_true] at h; exact .inl h.1
      · simp only [qo, Bool.and_eq_true] at h; exact .inr h.1
    rcases iha h1 hf.1 hp with k | k | k | k
    · exact .inl k
    · rw [h2] at k; cases k
    · rw [h3] at k; cases k
    · exact .inr (.inr (.inr k))
  | going a b iha ihb =>
    intro h hf ho
    obtain ⟨h1, h2⟩ := settled_going h
    have hp : a.po = true := by
      rcases ho with h | h
      · cases h
      · simp only [qo, Bool.and_eq_true] at h; exact h.1
    rcases iha h1 hf.1 (.inl hp) with k | k | k | k
    · exact .inl k
    · rw [h2] at k; cases k
    · cases a <;> first | (cases k; done) | (cases hp; done)
    · exact .inr (.inr (.inr k))
  | stack a b iha ihb =>
    intro h hf ho
    obtain ⟨h1, h2⟩ := settled_stack h
    have hp : a.qo = true := by
      rcases ho with h | h
      · cases h
      · simp only [qo, Bool.and_eq_true] at h; exact h.1
    rcases iha h1 hf.1 (.inr hp) with k | k | k | k
    · exact .inl k
    · cases a <;> first | (cases k; done) | (cases hp; done)
    · rw [h2] at k; cases k
    · exact .inr (.inr (.inr k))
  | par a b iha ihb =>
    intro h hf ho
    obtain ⟨h1, h2, h3, h4⟩ := settled_par h
    have hp : (a.po = true ∧ b.po = true) ∨ (a.qo = true ∧ b.qo = true) := by
      rcases ho with h | h
      · simp only [po, Bool.and_eq_true] at h; exact .inl h
      · simp only [qo, Bool.and_eq_true] at h; exact .inr h
    rcases iha h1 hf.1 (hp.imp (·.1) (·.1)) with k | k | k | k
    · exact .inl (by simp [waits, k])
    · rcases ihb h2 hf.2 (hp.imp (·.2) (·.2)) with j | j | j | j
      · exact .inl (by simp [waits, j])
      · rw [k, j] at h3; rcases h3 with h3 | h3 <;> cases h3
      · rcases hp with hp | hp
        · cases b <;> first | (cases j; done) | (cases hp.2; done)
        · cases a <;> first | (cases k; done) | (cases hp.1; done)
      · exact .inr (.inr (.inr (by simp [stuck, j])))
    · rcases ihb h2 hf.2 (hp.imp (·.2) (·.2)) with j | j | j | j
      · exact .inl (by simp [waits, j])
      · rcases hp with hp | hp
        · cases a <;> first | (cases k; done) | (cases hp.1; done)
        · cases b <;> first | (cases j; done) | (cases hp.2; done)
      · rw [k, j] at h4; rcases h4 with h4 | h4 <;> cases h4
      · exact .inr (.inr (.inr (by simp [stuck, j])))
    · exact .inr (.inr (.inr (by simp [stuck, k])))
  | block a iha =>
    intro h hf ho
    obtain ⟨h1, h2⟩ := settled_block h
    have hp : a.qo = true := by
      rcases ho with h | h
      · exact h
      · cases h
    rcases iha h1 hf (.inr hp) with k | k | k | k
    · exact .inl k
    · cases a <;> first | (cases k; done) | (cases hp; done)
    · cases a <;> first | (cases k; done) | skip
      rename_i s c
      have h3 := h2 s c rfl
      have h4 : signB s = true := hf.1
      rcases signB_iff.1 h4 with h5 | h5 | h5
      · exact absurd h5 h3.1
      · exact absurd h5 h3.2
      · exact .inr (.inr (.inr (by simp [stuck, h5])))
    · exact .inr (.inr (.inr (by simp [stuck, k])))

/-! ### what is settled is less -/
def wt (w : Nd → Nat) (m : Tm) : Nat := (m.row.map w).sum

section
variable (w : Nd → Nat)
theorem wt_seq (a b : Tm) : (seq a b).wt w = w (nd 5) + (a.wt w + b.wt w) := by simp [wt, row_seq]

theorem wt_alt (a b : Tm) : (alt a b).wt w = w (nd 6) + (a.wt w + b.wt w) := by simp [wt, row_alt]

theorem wt_par (a b : Tm) : (par a b).wt w = w (nd 7) + (a.wt w + b.wt w) := by simp [wt, row_par]

theorem wt_hand (a b : Tm) : (hand a b).wt w = w (nd 8) + (a.wt w + b.wt w) := by simp [wt, row_hand]

theorem wt_block (a : Tm) : (block a).wt w = w (nd 9) + a.wt w := by simp [wt, row_block]

theorem wt_pair (a b : Tm) : (pair a b).wt w = w (nd 10) + (a.wt w + b.wt w) := by simp [wt, row_pair]

theorem wt_going (a b : Tm) : (going a b).wt w = w (nd 12) + (a.wt w + b.wt w) := by simp [wt, row_going]

theorem wt_stack (a b : Tm) : (stack a b).wt w = w (nd 13) + (a.wt w + b.wt w) := by simp [wt, row_stack]

theorem wt_fin (s : Int) (a : Tm) : (fin s a).wt w = w (14, ByteArray.empty, s) + a.wt w := by simp [wt, row_fin]

theorem wt_over (s : Int) : (over s).wt w = w (11, ByteArray.empty, s) := by simp [wt]

theorem wt_skip : skip.wt w = w (nd 2) := by simp [wt]

theorem wt_throw : throw.wt w = w (nd 3) := by simp [wt]

theorem wt_act (s : ByteArray) : (act s).wt w = w (1, s, 0) := by simp [wt]

theorem wt_yield : yield.wt w = w (nd 4) := by simp [wt]

/-- What settling makes weighs nothing. -/
structure Light : Prop where
  skip : w (nd 2) = 0
  over : ∀ s, w (11, ByteArray.empty, s) = 0
  fin : ∀ s, w (14, ByteArray.empty, s) = 0
  seq : w (nd 5) = 0
  stack : w (nd 13) = 0

theorem wt_st (L : Light w) : ∀ m : Tm, m.st.wt w ≤ m.wt w := by
  intro m
  refine size_ind (p := fun m => m.st.wt w ≤ m.wt w) (fun m ih => ?_) m
  have hst : ∀ x c : Tm, (stack' x c).wt w ≤ x.wt w + c.wt w := fun x c => by
    cases x <;> simp only [stack'] <;> first | (rw [wt_stack, L.stack]; omega) | skip
    rename_i s d
    rw [wt_fin, wt_seq, wt_fin, L.fin, L.seq]; omega
  cases m with
  | act s => rw [st_act]; exact Nat.le_refl _
  | skip => rw [st_skip, wt_over, L.over]; omega
  | throw => rw [st_throw, wt_over, L.over]; omega
  | yield => rw [st_yield]; exact Nat.le_refl _
  | over s => rw [st_over]; exact Nat.le_refl _
  | alt a b => rw [st_alt]; exact Nat.le_refl _
  | pair a b => rw [st_pair]; exact Nat.le_refl _
  | fin s a => rw [st_fin]; exact Nat.le_refl _
  | hand a b =>
    have h1 := ih a (by rw [size_hand]; omega)
    have h2 := ih b (by rw [size_hand]; omega)
    rw [st_hand, wt_hand]
    generalize a.st = x at h1
    cases x <;> simp only [hand'] <;> first | (rw [wt_hand]; omega) | skip
    split
    · omega
    · rw [wt_over, L.over]; omega
  | seq a b =>
    have h1 := ih a (by rw [size_seq]; omega)
    have h2 := ih b (by rw [size_seq]; omega)
    rw [st_seq, wt_seq]
    generalize a.st = x at h1
    cases x <;> simp only [seq'] <;> first | (rw [wt_seq]; omega) | skip
    · split
      · omega
      · rw [wt_over, L.over]; omega
    · rename_i s c
      split
      · rw [wt_fin, L.fin] at h1
        have := hst b.st c
        omega
      · omega
  | stack a c =>
    have h1 := ih a (by rw [size_stack]; omega)
    rw [st_stack, wt_stack]
    have := hst a.st c
    omega
  | going a b =>
    have h1 := ih a (by rw [size_going]; omega)
    rw [st_going, wt_going]
    generalize a.st = x at h1
    cases x <;> simp only [going'] <;> first | (rw [wt_going]; omega) | skip
    split
    · rw [wt_fin, L.fin]; omega
    · rw [wt_fin, L.fin, wt_skip, L.skip]; omega
  | par a b =>
    have h1 := ih a (by rw [size_par]; omega)
    have h2 := ih b (by rw [size_par]; omega)
    rw [st_par, wt_par]
    rcases par'_cases a.st b.st with ⟨s, z, _, _, e⟩ | ⟨s, c, z, d, e1, e2, e⟩ | e
    · rw [e, wt_over, L.over]; omega
    · rw [e, wt_fin, wt_par, L.fin]
      rw [e1, wt_fin, L.fin] at h1
      rw [e2, wt_fin, L.fin] at h2
      omega
    · rw [e, wt_par]; omega
  | block a =>
    have h1 := ih a (by rw [size_block]; omega)
    have hsz := a.st_size
    rw [st_block, wt_block]
    generalize a.st = x at h1 hsz
    cases x <;> simp only [block'] <;> first | (rw [wt_block]; omega) | skip
    rename_i s c
    rw [wt_fin, L.fin] at h1
    split
    · rw [wt_over, L.over]; omega
    · split
      · have := ih c (by rw [size_block]; rw [size_fin] at hsz; omega)
        omega
      · rw [wt_block, wt_fin, L.fin]; omega
end
end Tm
end Go.Rd
