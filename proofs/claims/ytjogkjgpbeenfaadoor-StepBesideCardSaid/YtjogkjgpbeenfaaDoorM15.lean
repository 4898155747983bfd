/- A waiting place of a term, and what stands around it. -/
import Derived.Test.YtjogkjgpbeenfaaDoorM11
namespace Go.Rd
open Go Go.Sv
set_option linter.unusedVariables false
set_option linter.unusedSimpArgs false
namespace Tm
/-- A place that waits. -/
def Wt (u : Tm) : Prop := (∃ s, u = act s) ∨ (∃ a b, u = alt a b) ∨ u = yield ∨ ∃ a b, u = pair a b
/-- What stands around a waiting place. -/
def Ctx (m : Tm) (i k : Nat) : Prop := ∃ (A B : List Nd) (u : Tm), m.row = A ++ (u.row ++ B) ∧ i + A.length = k ∧ (u.Wt ∧ (m.fine → u.fine)) ∧
  ∀ x : Tm, ∃ m' : Tm, m'.row = A ++ (x.row ++ B) ∧ ((u.po = true → x.po = true) → (u.qo = true → x.qo = true) → (m.po = true → m'.po = true) ∧ (m.qo = true → m'.qo = true)) ∧ (m.fine → x.fine → m'.fine) ∧ m'.size + u.size = m.size + x.size
theorem ctx_self (u : Tm) (i k : Nat) (h : k ∈ [i]) (hw : u.Wt) : u.Ctx i k := by
  have : k = i := by simpa using h
  subst this
  exact ⟨[], [], u, by simp, by simp, ⟨hw, fun h => h⟩, fun x => ⟨x, by simp, fun h1 h2 => ⟨h1, h2⟩, fun _ h => h, by omega⟩⟩
/-- Inside, at the left of a node of two. -/
theorem ctx_left {f : Tm → Tm → Tm} {n : Nd} (hrow : ∀ a b, (f a b).row = n :: (a.row ++ b.row)) (hsz : ∀ a b, (f a b).size = a.size + b.size + 1) (hf : ∀ a b, (f a b).fine ↔ a.fine ∧ b.fine)
    {a b : Tm} (hpo : ∀ a', (a.po = true → a'.po = true) → (a.qo = true → a'.qo = true) → ((f a b).po = true → (f a' b).po = true) ∧ ((f a b).qo = true → (f a' b).qo = true)) {i k : Nat} (h : a.Ctx (i + 1) k) : (f a b).Ctx i k := by
  obtain ⟨A, B, u, h1, h2, h3, h4⟩ := h
  refine ⟨n :: A, B ++ b.row, u, by rw [hrow, h1]; simp, by simp; omega, ⟨h3.1, fun h => h3.2 ((hf _ _).1 h).1⟩, fun x => ?_⟩
  obtain ⟨a', e1, e2, e3, e4⟩ := h4 x
  refine ⟨f a' b, by rw [hrow, e1]; simp, fun g1 g2 => hpo a' (e2 g1 g2).1 (e2 g1 g2).2, fun hm hx => (hf _ _).2 ⟨e3 ((hf _ _).1 hm).1 hx, ((hf _ _).1 hm).2⟩, ?_⟩
  rw [hsz, hsz]; omega
theorem ctx_right {f : Tm → Tm → Tm} {n : Nd} (hrow : ∀ a b, (f a b).row = n :: (a.row ++ b.row)) (hsz : ∀ a b, (f a b).size = a.size + b.size + 1) (hf : ∀ a b, (f a b).fine ↔ a.fine ∧ b.fine)
    {a b : Tm} (hpo : ∀ b', (b.po = true → b'.po = true) → (b.qo = true → b'.qo = true) → ((f a b).po = true → (f a b').po = true) ∧ ((f a b).qo = true → (f a b').qo = true)) {i k : Nat} (h : b.Ctx (i + 1 + a.size) k) : (f a b).Ctx i k := by
  obtain ⟨A, B, u, h1, h2, h3, h4⟩ := h
  refine ⟨n :: (a.row ++ A), B, u, by rw [hrow, h1]; simp, by simp only [List.length_cons, List.length_append, Tm.len_row]; omega, ⟨h3.1, fun h => h3.2 ((hf _ _).1 h).2⟩, fun x => ?_⟩
  obtain ⟨b', e1, e2, e3, e4⟩ := h4 x
  refine ⟨f a b', by rw [hrow, e1]; simp, fun g1 g2 => hpo b' (e2 g1 g2).1 (e2 g1 g2).2, fun hm hx => (hf _ _).2 ⟨((hf _ _).1 hm).1, e3 ((hf _ _).1 hm).2 hx⟩, ?_⟩
  rw [hsz, hsz]; omega
theorem ctx_in {a : Tm} {i k : Nat} (h : a.Ctx (i + 1) k) : (block a).Ctx i k := by
  obtain ⟨A, B, u, h1, h2, h3, h4⟩ := h
  refine ⟨nd 9 :: A, B, u, by rw [row_block, h1]; simp, by simp; omega, ⟨h3.1, fun h => h3.2 h⟩, fun x => ?_⟩
  obtain ⟨a', e1, e2, e3, e4⟩ := h4 x
  refine ⟨block a', by rw [row_block, e1]; simp, fun g1 g2 => ⟨fun h => (e2 g1 g2).2 h, fun h => by simp [qo] at h⟩, fun hm hx => e3 hm hx, ?_⟩
  rw [size_block, size_block]; omega
theorem ctx : ∀ (m : Tm) (i k : Nat), k ∈ m.t.wts i → m.Ctx i k
  | act s, i, k, h => ctx_self _ _ _ h (.inl ⟨s, rfl⟩)
  | yield, i, k, h => ctx_self _ _ _ h (.inr (.inr (.inl rfl)))
  | alt a b, i, k, h => ctx_self _ _ _ h (.inr (.inl ⟨a, b, rfl⟩))
  | pair a b, i, k, h => ctx_self _ _ _ h (.inr (.inr (.inr ⟨a, b, rfl⟩)))
  | skip, i, k, h => by simp [t, T.wts, waitK] at h
  | throw, i, k, h => by simp [t, T.wts, waitK] at h
  | over s, i, k, h => by simp [t, T.wts, waitK] at h
  | fin s a, i, k, h => by simp [t, T.wts, waitK, goK] at h
  | block a, i, k, h => ctx_in (ctx a (i + 1) k (by simpa [t, T.wts, waitK, goK] using h))
  | seq a b, i, k, h => ctx_left (f := seq) row_seq (fun _ _ => rfl) (fun _ _ => Iff.rfl) (fun a' h1 h2 => by simp only [po, qo, Bool.and_eq_true]; exact ⟨fun h => ⟨h1 h.1, h.2⟩, fun h => ⟨h2 h.1, h.2⟩⟩) (ctx a (i + 1) k (by simpa [t, T.wts, waitK, goK] using h))
  | hand a b, i, k, h => ctx_left (f := hand) row_hand (fun _ _ => rfl) (fun _ _ => Iff.rfl) (fun a' h1 h2 => by simp only [po, qo, Bool.and_eq_true]; exact ⟨fun h => ⟨h1 h.1, h.2⟩, fun h => h⟩) (ctx a (i + 1) k (by simpa [t, T.wts, waitK, goK] using h))
  | going a b, i, k, h => ctx_left (f := going) row_going (fun _ _ => rfl) (fun _ _ => Iff.rfl) (fun a' h1 h2 => by simp only [po, qo, Bool.and_eq_true]; exact ⟨fun h => h, fun h => ⟨h1 h.1, h.2⟩⟩) (ctx a (i + 1) k (by simpa [t, T.wts, waitK, goK] using h))
  | stack a b, i, k, h => ctx_left (f := stack) row_stack (fun _ _ => rfl) (fun _ _ => Iff.rfl) (fun a' h1 h2 => by simp only [po, qo, Bool.and_eq_true]; exact ⟨fun h => h, fun h => ⟨h2 h.1, h.2⟩⟩) (ctx a (i + 1) k (by simpa [t, T.wts, waitK, goK] using h))
  | par a b, i, k, h => by
    have h' : k ∈ a.t.wts (i + 1) ∨ k ∈ b.t.wts (i + 1 + a.t.size) := by simpa [t, T.wts, waitK, goK] using h
    rcases h' with h' | h'
    · exact ctx_left (f := par) row_par (fun _ _ => rfl) (fun _ _ => Iff.rfl) (fun a' h1 h2 => by simp only [po, qo, Bool.and_eq_true]; exact ⟨fun h => ⟨h1 h.1, h.2⟩, fun h => ⟨h2 h.1, h.2⟩⟩) (ctx a (i + 1) k h')
    · exact ctx_right (f := par) row_par (fun _ _ => rfl) (fun _ _ => Iff.rfl) (fun b' h1 h2 => by simp only [po, qo, Bool.and_eq_true]; exact ⟨fun h => ⟨h.1, h1 h.2⟩, fun h => ⟨h.1, h2 h.2⟩⟩) (ctx b (i + 1 + a.size) k (by rw [show a.size = a.t.size by rw [← T.len_row]; exact (Tm.len_row a).symm]; exact h'))
end Tm
end Go.Rd
