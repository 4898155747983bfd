/- Of what is settled: how it may look, that it is less. Plain Lean, no program in sight. -/
import Derived.Test.YtjogkjgpbeenfaaGreatDoorM4
namespace Go.Rd
open Go Go.Sv
set_option linter.unusedVariables false
set_option linter.unusedSimpArgs false
def wfNd (n : Nd) : Prop := (Lit.int .i64 n.1).wf = true ∧ n.2.1.size ≤ reachBytes ∧ (Lit.int .i64 n.2.2).wf = true
def yua (l : List Nd) : Prop := l.length ≤ reachBytes ∧ ∀ x ∈ l, wfNd x
theorem yua.names {l : List Nd} (h : yua l) : ∀ n ∈ l, n.2.1.size ≤ 9223372036854775807 := fun n hn => by
  have := (h.2 n hn).2.1
  unfold reachBytes at this
  omega
namespace Tm
def zul : Tm → Bool
  | over _ => true
  | _ => false
def isFin : Tm → Bool
  | fin _ _ => true
  | _ => false
/-! ### what is settled, by its parts -/
theorem qjy {a b : Tm} (h : (hand a b).settled) : a.settled ∧ a.zul = false := by
  unfold settled at h ⊢
  rw [zzy] at h
  have hb := b.zhi
  generalize hx : a.st = x at h
  cases x <;> simp only [hand'] at h <;> first | (injection h with h1 h2; subst h1; exact ⟨rfl, rfl⟩) | skip
  split at h
  · have := congrArg size h; rw [zdn] at this; omega
  · cases h
theorem qob {a b : Tm} (h : (seq a b).settled) : a.settled ∧ a.zul = false ∧ a.isFin = false := by
  unfold settled at h ⊢
  rw [qft] at h
  have hb := b.zhi
  generalize hx : a.st = x at h
  cases x <;> simp only [seq'] at h <;> first | (injection h with h1 h2; subst h1; exact ⟨rfl, rfl, rfl⟩) | skip
  · split at h
    · have := congrArg size h; rw [zcs] at this; omega
    · cases h
  · split at h
    · generalize b.st = y at h
      cases y <;> simp only [zrb] at h <;> cases h
    · cases h
theorem qgg {a b : Tm} (h : (going a b).settled) : a.settled ∧ a.zul = false := by
  unfold settled at h ⊢
  rw [zxq] at h
  generalize hx : a.st = x at h
  cases x <;> simp only [qqa] at h <;> first | (injection h with h1 h2; subst h1; exact ⟨rfl, rfl⟩) | skip
  split at h <;> cases h
theorem qgf {a b : Tm} (h : (stack a b).settled) : a.settled ∧ a.isFin = false := by
  unfold settled at h ⊢
  rw [qce] at h
  generalize hx : a.st = x at h
  cases x <;> simp only [zrb] at h <;> first | (injection h with h1 h2; subst h1; exact ⟨rfl, rfl⟩) | cases h
theorem qel {a b : Tm} (h : (par a b).settled) : a.settled ∧ b.settled ∧ (a.zul = false ∨ b.zul = false) ∧ (a.isFin = false ∨ b.isFin = false) := by
  unfold settled at h ⊢
  rw [qnf] at h
  rcases qco a.st b.st with ⟨s, z, _, _, e⟩ | ⟨s, c, z, d, _, _, e⟩ | e
  · rw [e] at h; cases h
  · rw [e] at h; cases h
  · have h0 := h
    rw [e] at h
    injection h with h1 h2
    refine ⟨h1, h2, ?_, ?_⟩
    · cases ha : a.zul with
      | false => exact .inl rfl
      | true =>
        cases hb : b.zul with
        | false => exact .inr rfl
        | true =>
          exfalso
          rw [h1, h2] at h0
          cases a <;> cases ha
          cases b <;> cases hb
          cases h0
    · cases ha : a.isFin with
      | false => exact .inl rfl
      | true =>
        cases hb : b.isFin with
        | false => exact .inr rfl
        | true =>
          exfalso
          rw [h1, h2] at h0
          cases a <;> cases ha
          cases b <;> cases hb
          cases h0
theorem qgh {a : Tm} (h : (block a).settled) : a.settled ∧ (∀ s c, a = fin s c → s ≠ 1 ∧ s ≠ 2) := by
  unfold settled at h ⊢
  rw [ztz] at h
  have hsz := a.zhi
  generalize hx : a.st = x at h hsz
  cases x <;> simp only [block'] at h <;> first | (injection h with h1; subst h1; exact ⟨rfl, fun s c e => by cases e⟩) | skip
  rename_i s c
  split at h
  · cases h
  · split at h
    · have h3 := congrArg size h
      have h4 := c.zhi
      rw [zfd] at hsz
      rw [zbo] at h3
      omega
    · rename_i h1 h2
      injection h with h3
      subst h3
      exact ⟨rfl, fun s' c' e => by injection e with e1 _; rw [← e1]; exact ⟨h1, h2⟩⟩
def waits : Tm → Bool
  | act _ | alt _ _ | yield | pair _ _ => true
  | seq a _ | hand a _ | going a _ | stack a _ | block a => a.waits
  | par a b => a.waits || b.waits
  | _ => false
/-! ### what is settled is less -/
def wt (w : Nd → Nat) (m : Tm) : Nat := (m.row.map w).sum
section
variable (w : Nd → Nat)
theorem yjp (a b : Tm) : (seq a b).wt w = w (nd 5) + (a.wt w + b.wt w) := by simp [wt, ycs]
theorem yjq (a b : Tm) : (par a b).wt w = w (nd 7) + (a.wt w + b.wt w) := by simp [wt, qvy]
theorem yjr (a b : Tm) : (hand a b).wt w = w (nd 8) + (a.wt w + b.wt w) := by simp [wt, qwa]
theorem quq (a : Tm) : (block a).wt w = w (nd 9) + a.wt w := by simp [wt, qal]
theorem yfj (a b : Tm) : (going a b).wt w = w (nd 12) + (a.wt w + b.wt w) := by simp [wt, qom]
theorem yfi (a b : Tm) : (stack a b).wt w = w (nd 13) + (a.wt w + b.wt w) := by simp [wt, qoj]
theorem qdf (s : Int) (a : Tm) : (fin s a).wt w = w (14, ByteArray.empty, s) + a.wt w := by simp [wt, qwb]
theorem qig (s : Int) : (over s).wt w = w (11, ByteArray.empty, s) := by simp [wt]
theorem ytz : skip.wt w = w (nd 2) := by simp [wt]
structure Light : Prop where
  skip : w (nd 2) = 0
  over : ∀ s, w (11, ByteArray.empty, s) = 0
  fin : ∀ s, w (14, ByteArray.empty, s) = 0
  seq : w (nd 5) = 0
  stack : w (nd 13) = 0
theorem yyp (L : Light w) : ∀ m : Tm, m.st.wt w ≤ m.wt w := by
  intro m
  refine qmd (p := fun m => m.st.wt w ≤ m.wt w) (fun m ih => ?_) m
  have hst : ∀ x c : Tm, (zrb x c).wt w ≤ x.wt w + c.wt w := fun x c => by
    cases x <;> simp only [zrb] <;> first | (rw [yfi, L.stack]; omega) | skip
    rename_i s d
    rw [qdf, yjp, qdf, L.fin, L.seq]; omega
  cases m with
  | act s => rw [qdh]; exact Nat.le_refl _
  | skip => rw [qim, qig, L.over]; omega
  | throw => rw [zty, qig, L.over]; omega
  | yield => rw [qfs]; exact Nat.le_refl _
  | over s => rw [qio]; exact Nat.le_refl _
  | alt a b => rw [qyt]; exact Nat.le_refl _
  | pair a b => rw [qin]; exact Nat.le_refl _
  | fin s a => rw [qys]; exact Nat.le_refl _
  | hand a b =>
    have h1 := ih a (by rw [zdn]; omega)
    have h2 := ih b (by rw [zdn]; omega)
    rw [zzy, yjr]
    generalize a.st = x at h1
    cases x <;> simp only [hand'] <;> first | (rw [yjr]; omega) | skip
    split
    · omega
    · rw [qig, L.over]; omega
  | seq a b =>
    have h1 := ih a (by rw [zcs]; omega)
    have h2 := ih b (by rw [zcs]; omega)
    rw [qft, yjp]
    generalize a.st = x at h1
    cases x <;> simp only [seq'] <;> first | (rw [yjp]; omega) | skip
    · split
      · omega
      · rw [qig, L.over]; omega
    · rename_i s c
      split
      · rw [qdf, L.fin] at h1
        have := hst b.st c
        omega
      · omega
  | stack a c =>
    have h1 := ih a (by rw [zgf]; omega)
    rw [qce, yfi]
    have := hst a.st c
    omega
  | going a b =>
    have h1 := ih a (by rw [zez]; omega)
    rw [zxq, yfj]
    generalize a.st = x at h1
    cases x <;> simp only [qqa] <;> first | (rw [yfj]; omega) | skip
    split
    · rw [qdf, L.fin]; omega
    · rw [qdf, L.fin, ytz, L.skip]; omega
  | par a b =>
    have h1 := ih a (by rw [zet]; omega)
    have h2 := ih b (by rw [zet]; omega)
    rw [qnf, yjq]
    rcases qco a.st b.st with ⟨s, z, _, _, e⟩ | ⟨s, c, z, d, e1, e2, e⟩ | e
    · rw [e, qig, L.over]; omega
    · rw [e, qdf, yjq, L.fin]
      rw [e1, qdf, L.fin] at h1
      rw [e2, qdf, L.fin] at h2
      omega
    · rw [e, yjq]; omega
  | block a =>
    have h1 := ih a (by rw [zbo]; omega)
    have hsz := a.zhi
    rw [ztz, quq]
    generalize a.st = x at h1 hsz
    cases x <;> simp only [block'] <;> first | (rw [quq]; omega) | skip
    rename_i s c
    rw [qdf, L.fin] at h1
    split
    · rw [qig, L.over]; omega
    · split
      · have := ih c (by rw [zbo]; rw [zfd] at hsz; omega)
        omega
      · rw [quq, qdf, L.fin]; omega
end
end Tm
end Go.Rd
