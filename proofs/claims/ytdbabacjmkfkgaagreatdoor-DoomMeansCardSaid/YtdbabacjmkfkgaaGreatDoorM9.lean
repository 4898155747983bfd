/- Meanings: the traces of what is plain, the pairs of what is paired; how many there are. Plain Lean, no program in sight. -/
import Derived.Test.YtdbabacjmkfkgaaGreatDoorM4
import Derived.Test.YtdbabacjmkfkgaaGreatDoorM7
namespace Go.Rd
open Go Go.Sv
set_option linter.unusedVariables false
set_option linter.unusedSimpArgs false
abbrev Qc := Tc × Tc
/-! ### how traces, and pairs, are put together -/
def behT (p q : Tc) : Tc := (p.1 ++ q.1, q.2)
def handF (p q : Tc) : Tc := if p.2 = 2 then behT p q else p
def goF (x y : Tc) : Qc := (x, if x.2 = 1 then y else ([], 1))
def seqF (a b : Qc) : Qc := if a.1.2 = 1 then (thenT a.1 b.1, thenT b.2 a.2) else a
def parF (a b : Qc) : List Qc := (parE (bs a.1.2 b.1.2) a.1.1 b.1.1).flatMap fun p => (parE (bs a.2.2 b.2.2) a.2.1 b.2.1).map fun q => (p, q)
def blkF (x : Qc) : List Tc := if x.1.2 = 1 then [x.1] else if x.1.2 = 2 then [behT x.1 x.2] else []
/-- Something of each of one row and each of another one. -/
def crossL {α β γ : Type} (A : List α) (B : List β) (f : α → β → List γ) : List γ := A.flatMap fun a => B.flatMap fun b => f a b
def cross1 {α β γ : Type} (A : List α) (B : List β) (f : α → β → γ) : List γ := crossL A B fun a b => [f a b]
theorem mem_crossL {α β γ : Type} {A : List α} {B : List β} {f : α → β → List γ} {z : γ} : z ∈ crossL A B f ↔ ∃ a ∈ A, ∃ b ∈ B, z ∈ f a b := by
  unfold crossL
  simp only [List.mem_flatMap]
theorem mem_cross1 {α β γ : Type} {A : List α} {B : List β} {f : α → β → γ} {z : γ} : z ∈ cross1 A B f ↔ ∃ a ∈ A, ∃ b ∈ B, z = f a b := by
  unfold cross1
  simp only [mem_crossL, List.mem_singleton]
theorem len_flatMap {α γ : Type} {f : α → List γ} {k : Nat} : ∀ {A : List α}, (∀ a ∈ A, (f a).length ≤ k) → (A.flatMap f).length ≤ A.length * k
  | [], _ => by simp
  | a :: A, h => by
    have h1 := h a (List.mem_cons_self ..)
    have h2 := len_flatMap (A := A) fun b hb => h b (List.mem_cons_of_mem _ hb)
    simp only [List.flatMap_cons, List.length_append, List.length_cons, Nat.add_mul, Nat.one_mul]
    omega
theorem len_crossL {α β γ : Type} {A : List α} {B : List β} {f : α → β → List γ} {k : Nat} (h : ∀ a ∈ A, ∀ b ∈ B, (f a b).length ≤ k) : (crossL A B f).length ≤ A.length * (B.length * k) :=
  len_flatMap fun a ha => len_flatMap fun b hb => h a ha b hb
theorem len_cross1 {α β γ : Type} {A : List α} {B : List β} {f : α → β → γ} : (cross1 A B f).length ≤ A.length * B.length := by
  have := len_crossL (A := A) (B := B) (f := fun a b => [f a b]) (k := 1) fun a _ b _ => by simp
  rwa [Nat.mul_one] at this
namespace Tm
/-- The traces (of what is plain), the pairs (of what is paired). -/
def sem : Tm → List Tc × List Qc
  | act s => (canon cmpT [([s], 1)], [])
  | skip => (canon cmpT [([], 1)], [])
  | throw => (canon cmpT [([], 2)], [])
  | yield => (canon cmpT [([], 1), ([], 3)], [])
  | over s => (canon cmpT [([], s)], [])
  | seq a b => (canon cmpT (cross1 a.sem.1 b.sem.1 thenT), canon cmpQ (cross1 a.sem.2 b.sem.2 seqF))
  | alt a b => (canon cmpT (a.sem.1 ++ b.sem.1), canon cmpQ (a.sem.2 ++ b.sem.2))
  | par a b => (canon cmpT (crossL a.sem.1 b.sem.1 fun p q => parE (bs p.2 q.2) p.1 q.1), canon cmpQ (crossL a.sem.2 b.sem.2 parF))
  | hand a b => (canon cmpT (cross1 a.sem.1 b.sem.1 handF), [])
  | block a => (canon cmpT (a.sem.2.flatMap blkF), [])
  | pair a b => ([], canon cmpQ (cross1 a.sem.1 b.sem.1 goF ++ [(([], 3), ([], 1))]))
  | going a b => ([], canon cmpQ (cross1 a.sem.1 b.sem.1 goF))
  | stack a c => ([], canon cmpQ (cross1 a.sem.2 c.sem.1 fun x q => (x.1, thenT x.2 q)))
  | fin s c => ([], canon cmpQ (c.sem.1.map fun q => (([], s), q)))
def tr (m : Tm) : List Tc := m.sem.1
def pq (m : Tm) : List Qc := m.sem.2
theorem mem_tr_act {s : ByteArray} {x : Tc} : x ∈ (act s).tr ↔ x = ([s], 1) := (mem_canon ordT).trans List.mem_singleton
theorem mem_tr_skip {x : Tc} : x ∈ skip.tr ↔ x = ([], 1) := (mem_canon ordT).trans List.mem_singleton
theorem mem_tr_throw {x : Tc} : x ∈ throw.tr ↔ x = ([], 2) := (mem_canon ordT).trans List.mem_singleton
theorem mem_tr_yield {x : Tc} : x ∈ yield.tr ↔ x = ([], 1) ∨ x = ([], 3) := (mem_canon ordT).trans (by simp)
theorem mem_tr_over {s : Int} {x : Tc} : x ∈ (over s).tr ↔ x = ([], s) := (mem_canon ordT).trans List.mem_singleton
theorem mem_tr_seq {a b : Tm} {x : Tc} : x ∈ (seq a b).tr ↔ ∃ p ∈ a.tr, ∃ q ∈ b.tr, x = thenT p q := (mem_canon ordT).trans mem_cross1
theorem mem_tr_alt {a b : Tm} {x : Tc} : x ∈ (alt a b).tr ↔ x ∈ a.tr ∨ x ∈ b.tr := (mem_canon ordT).trans List.mem_append
theorem mem_tr_par {a b : Tm} {x : Tc} : x ∈ (par a b).tr ↔ ∃ p ∈ a.tr, ∃ q ∈ b.tr, Mx p.1 q.1 x.1 ∧ x.2 = bs p.2 q.2 := by
  refine (mem_canon ordT).trans (mem_crossL.trans ?_)
  simp only [mem_parE]; rfl
theorem mem_tr_hand {a b : Tm} {x : Tc} : x ∈ (hand a b).tr ↔ ∃ p ∈ a.tr, ∃ q ∈ b.tr, x = handF p q := (mem_canon ordT).trans mem_cross1
theorem mem_blkF {z : Qc} {x : Tc} : x ∈ blkF z ↔ (z.1.2 = 1 ∧ x = z.1) ∨ (z.1.2 = 2 ∧ x = behT z.1 z.2) := by
  unfold blkF
  split
  · rename_i h; simp [h]
  · rename_i h
    split
    · rename_i h2; simp [h2]
    · rename_i h2; simp [h, h2]
theorem mem_tr_block {a : Tm} {x : Tc} : x ∈ (block a).tr ↔ ∃ z ∈ a.pq, (z.1.2 = 1 ∧ x = z.1) ∨ (z.1.2 = 2 ∧ x = behT z.1 z.2) := by
  refine (mem_canon ordT).trans ?_
  simp only [List.mem_flatMap, mem_blkF]; rfl
theorem mem_pq_seq {a b : Tm} {x : Qc} : x ∈ (seq a b).pq ↔ ∃ p ∈ a.pq, ∃ q ∈ b.pq, x = seqF p q := (mem_canon ordQ).trans mem_cross1
theorem mem_pq_alt {a b : Tm} {x : Qc} : x ∈ (alt a b).pq ↔ x ∈ a.pq ∨ x ∈ b.pq := (mem_canon ordQ).trans List.mem_append
theorem mem_parF {a b x : Qc} : x ∈ parF a b ↔ (Mx a.1.1 b.1.1 x.1.1 ∧ x.1.2 = bs a.1.2 b.1.2) ∧ Mx a.2.1 b.2.1 x.2.1 ∧ x.2.2 = bs a.2.2 b.2.2 := by
  unfold parF
  simp only [List.mem_flatMap, List.mem_map]
  constructor
  · rintro ⟨p, hp, q, hq, rfl⟩
    exact ⟨mem_parE.1 hp, mem_parE.1 hq⟩
  · rintro ⟨h1, h2⟩
    exact ⟨x.1, mem_parE.2 h1, x.2, mem_parE.2 h2, rfl⟩
theorem mem_pq_par {a b : Tm} {x : Qc} : x ∈ (par a b).pq ↔ ∃ p ∈ a.pq, ∃ q ∈ b.pq, (Mx p.1.1 q.1.1 x.1.1 ∧ x.1.2 = bs p.1.2 q.1.2) ∧ Mx p.2.1 q.2.1 x.2.1 ∧ x.2.2 = bs p.2.2 q.2.2 := by
  refine (mem_canon ordQ).trans (mem_crossL.trans ?_)
  simp only [mem_parF]; rfl
theorem mem_pq_pair {a b : Tm} {x : Qc} : x ∈ (pair a b).pq ↔ (∃ p ∈ a.tr, ∃ q ∈ b.tr, x = goF p q) ∨ x = (([], 3), ([], 1)) := by
  refine (mem_canon ordQ).trans (List.mem_append.trans ?_)
  rw [mem_cross1, List.mem_singleton]; rfl
theorem mem_pq_going {a b : Tm} {x : Qc} : x ∈ (going a b).pq ↔ ∃ p ∈ a.tr, ∃ q ∈ b.tr, x = goF p q := (mem_canon ordQ).trans mem_cross1
theorem mem_pq_stack {a c : Tm} {x : Qc} : x ∈ (stack a c).pq ↔ ∃ p ∈ a.pq, ∃ q ∈ c.tr, x = (p.1, thenT p.2 q) := (mem_canon ordQ).trans mem_cross1
theorem mem_pq_fin {s : Int} {c : Tm} {x : Qc} : x ∈ (fin s c).pq ↔ ∃ q ∈ c.tr, x = (([], s), q) := by
  refine (mem_canon ordQ).trans (List.mem_map.trans ?_)
  constructor
  · rintro ⟨q, h, rfl⟩; exact ⟨q, h, rfl⟩
  · rintro ⟨q, h, rfl⟩; exact ⟨q, h, rfl⟩
def s12 (s : Int) : Prop := s = 1 ∨ s = 2
instance (s : Int) : Decidable (s12 s) := by unfold s12; infer_instance
/-! ### how they end -/
theorem sg_then {p q : Tc} (hp : signB p.2 = true) (hq : signB q.2 = true) : signB (thenT p q).2 = true := by
  unfold thenT
  split
  · exact hq
  · exact hp
theorem ends_tr : ∀ m : Tm, m.fine → (∀ x ∈ m.tr, signB x.2 = true) ∧ (∀ x ∈ m.pq, signB x.1.2 = true ∧ signB x.2.2 = true)
  | act s, _ => ⟨fun x hx => by rw [mem_tr_act.1 hx]; rfl, fun x hx => by cases hx⟩
  | skip, _ => ⟨fun x hx => by rw [mem_tr_skip.1 hx]; rfl, fun x hx => by cases hx⟩
  | throw, _ => ⟨fun x hx => by rw [mem_tr_throw.1 hx]; rfl, fun x hx => by cases hx⟩
  | yield, _ => ⟨fun x hx => by rcases mem_tr_yield.1 hx with h | h <;> rw [h] <;> rfl, fun x hx => by cases hx⟩
  | over s, h => ⟨fun x hx => by rw [mem_tr_over.1 hx]; exact h, fun x hx => by cases hx⟩
  | seq a b, h => ⟨fun x hx => by
      obtain ⟨p, hp, q, hq, rfl⟩ := mem_tr_seq.1 hx
      exact sg_then ((ends_tr a h.1).1 p hp) ((ends_tr b h.2).1 q hq), fun x hx => by
      obtain ⟨p, hp, q, hq, rfl⟩ := mem_pq_seq.1 hx
      have h1 := (ends_tr a h.1).2 p hp
      have h2 := (ends_tr b h.2).2 q hq
      unfold seqF
      split
      · exact ⟨sg_then h1.1 h2.1, sg_then h2.2 h1.2⟩
      · exact h1⟩
  | alt a b, h => ⟨fun x hx => by
      rcases mem_tr_alt.1 hx with hx | hx
      · exact (ends_tr a h.1).1 x hx
      · exact (ends_tr b h.2).1 x hx, fun x hx => by
      rcases mem_pq_alt.1 hx with hx | hx
      · exact (ends_tr a h.1).2 x hx
      · exact (ends_tr b h.2).2 x hx⟩
  | par a b, h => ⟨fun x hx => by
      obtain ⟨p, hp, q, hq, _, e⟩ := mem_tr_par.1 hx
      rw [e]
      exact bs_sign ((ends_tr a h.1).1 p hp) ((ends_tr b h.2).1 q hq), fun x hx => by
      obtain ⟨p, hp, q, hq, ⟨_, e1⟩, _, e2⟩ := mem_pq_par.1 hx
      have h1 := (ends_tr a h.1).2 p hp
      have h2 := (ends_tr b h.2).2 q hq
      rw [e1, e2]
      exact ⟨bs_sign h1.1 h2.1, bs_sign h1.2 h2.2⟩⟩
  | hand a b, h => ⟨fun x hx => by
      obtain ⟨p, hp, q, hq, rfl⟩ := mem_tr_hand.1 hx
      unfold handF
      split
      · exact (ends_tr b h.2).1 q hq
      · exact (ends_tr a h.1).1 p hp, fun x hx => by cases hx⟩
  | block a, h => ⟨fun x hx => by
      obtain ⟨z, hz, ⟨_, rfl⟩ | ⟨_, rfl⟩⟩ := mem_tr_block.1 hx
      · exact ((ends_tr a h).2 z hz).1
      · exact ((ends_tr a h).2 z hz).2, fun x hx => by cases hx⟩
  | pair a b, h => ⟨fun x hx => by (cases hx), fun x hx => by
      rcases mem_pq_pair.1 hx with ⟨p, hp, q, hq, rfl⟩ | rfl
      · refine ⟨(ends_tr a h.1).1 p hp, ?_⟩
        show signB (if p.2 = 1 then q else ([], 1)).2 = true
        split
        · exact (ends_tr b h.2).1 q hq
        · rfl
      · exact ⟨rfl, rfl⟩⟩
  | going a b, h => ⟨fun x hx => by (cases hx), fun x hx => by
      obtain ⟨p, hp, q, hq, rfl⟩ := mem_pq_going.1 hx
      refine ⟨(ends_tr a h.1).1 p hp, ?_⟩
      show signB (if p.2 = 1 then q else ([], 1)).2 = true
      split
      · exact (ends_tr b h.2).1 q hq
      · rfl⟩
  | stack a c, h => ⟨fun x hx => by (cases hx), fun x hx => by
      obtain ⟨p, hp, q, hq, rfl⟩ := mem_pq_stack.1 hx
      exact ⟨((ends_tr a h.1).2 p hp).1, sg_then ((ends_tr a h.1).2 p hp).2 ((ends_tr c h.2).1 q hq)⟩⟩
  | fin s c, h => ⟨fun x hx => by (cases hx), fun x hx => by
      obtain ⟨q, hq, rfl⟩ := mem_pq_fin.1 hx
      exact ⟨h.1, (ends_tr c h.2).1 q hq⟩⟩
/-! ### of which actions -/
/-- A term's actions, in order. -/
def nm : Tm → List ByteArray
  | act s => [s]
  | skip | throw | yield | over _ => []
  | seq a b | alt a b | par a b | hand a b | pair a b | going a b | stack a b => a.nm ++ b.nm
  | block a | fin _ a => a.nm
def wsum (f : ByteArray → Nat) (l : List ByteArray) : Nat := (l.map f).sum
section
variable {f : ByteArray → Nat}
theorem wsum_nil : wsum f [] = 0 := rfl
theorem wsum_append (l m : List ByteArray) : wsum f (l ++ m) = wsum f l + wsum f m := by simp [wsum]
theorem wsum_mx {p q r : List ByteArray} (h : Mx p q r) : wsum f r = wsum f p + wsum f q := by
  induction h with
  | nil => rfl
  | l _ ih => simp only [wsum, List.map_cons, List.sum_cons] at ih ⊢; omega
  | r _ ih => simp only [wsum, List.map_cons, List.sum_cons] at ih ⊢; omega
theorem wsum_then (p q : Tc) : wsum f (thenT p q).1 ≤ wsum f p.1 + wsum f q.1 := by
  unfold thenT
  split
  · rw [wsum_append]; exact Nat.le_refl _
  · omega
theorem wsum_tr : ∀ m : Tm, (∀ x ∈ m.tr, wsum f x.1 ≤ wsum f m.nm) ∧ (∀ x ∈ m.pq, wsum f x.1.1 + wsum f x.2.1 ≤ wsum f m.nm)
  | act s => ⟨fun x hx => by rw [mem_tr_act.1 hx]; exact Nat.le_refl _, fun x hx => by cases hx⟩
  | skip => ⟨fun x hx => by rw [mem_tr_skip.1 hx]; exact Nat.le_refl _, fun x hx => by cases hx⟩
  | throw => ⟨fun x hx => by rw [mem_tr_throw.1 hx]; exact Nat.le_refl _, fun x hx => by cases hx⟩
  | yield => ⟨fun x hx => by rcases mem_tr_yield.1 hx with h | h <;> rw [h] <;> exact Nat.le_refl _, fun x hx => by cases hx⟩
  | over s => ⟨fun x hx => by rw [mem_tr_over.1 hx]; exact Nat.le_refl _, fun x hx => by cases hx⟩
  | seq a b => ⟨fun x hx => by
      obtain ⟨p, hp, q, hq, rfl⟩ := mem_tr_seq.1 hx
      have h1 := (wsum_tr a).1 p hp
      have h2 := (wsum_tr b).1 q hq
      have h3 := wsum_then (f := f) p q
      rw [nm, wsum_append]; omega, fun x hx => by
      obtain ⟨p, hp, q, hq, rfl⟩ := mem_pq_seq.1 hx
      have h1 := (wsum_tr a).2 p hp
      have h2 := (wsum_tr b).2 q hq
      have h3 := wsum_then (f := f) p.1 q.1
      have h4 := wsum_then (f := f) q.2 p.2
      rw [nm, wsum_append]
      unfold seqF
      split
      · show wsum f (thenT p.1 q.1).1 + wsum f (thenT q.2 p.2).1 ≤ _
        omega
      · omega⟩
  | alt a b => ⟨fun x hx => by
      rw [nm, wsum_append]
      rcases mem_tr_alt.1 hx with hx | hx
      · have := (wsum_tr a).1 x hx; omega
      · have := (wsum_tr b).1 x hx; omega, fun x hx => by
      rw [nm, wsum_append]
      rcases mem_pq_alt.1 hx with hx | hx
      · have := (wsum_tr a).2 x hx; omega
      · have := (wsum_tr b).2 x hx; omega⟩
  | par a b => ⟨fun x hx => by
      obtain ⟨p, hp, q, hq, e, _⟩ := mem_tr_par.1 hx
      have h1 := (wsum_tr a).1 p hp
      have h2 := (wsum_tr b).1 q hq
      rw [nm, wsum_append, wsum_mx e]; omega, fun x hx => by
      obtain ⟨p, hp, q, hq, ⟨e1, _⟩, e2, _⟩ := mem_pq_par.1 hx
      have h1 := (wsum_tr a).2 p hp
      have h2 := (wsum_tr b).2 q hq
      rw [nm, wsum_append, wsum_mx e1, wsum_mx e2]; omega⟩
  | hand a b => ⟨fun x hx => by
      obtain ⟨p, hp, q, hq, rfl⟩ := mem_tr_hand.1 hx
      have h1 := (wsum_tr a).1 p hp
      have h2 := (wsum_tr b).1 q hq
      rw [nm, wsum_append]
      unfold handF
      split
      · show wsum f (p.1 ++ q.1) ≤ _
        rw [wsum_append]; omega
      · omega, fun x hx => by cases hx⟩
  | block a => ⟨fun x hx => by
      obtain ⟨z, hz, ⟨_, rfl⟩ | ⟨_, rfl⟩⟩ := mem_tr_block.1 hx
      · have := (wsum_tr a).2 z hz; rw [nm]; omega
      · have := (wsum_tr a).2 z hz
        rw [nm]
        show wsum f (z.1.1 ++ z.2.1) ≤ _
        rw [wsum_append]; omega, fun x hx => by cases hx⟩
  | pair a b => ⟨fun x hx => by (cases hx), fun x hx => by
      rw [nm, wsum_append]
      rcases mem_pq_pair.1 hx with ⟨p, hp, q, hq, rfl⟩ | rfl
      · have h1 := (wsum_tr a).1 p hp
        have h2 := (wsum_tr b).1 q hq
        show wsum f p.1 + wsum f (if p.2 = 1 then q else ([], 1)).1 ≤ _
        split
        · omega
        · rw [wsum_nil]; omega
      · exact Nat.zero_le _⟩
  | going a b => ⟨fun x hx => by (cases hx), fun x hx => by
      rw [nm, wsum_append]
      obtain ⟨p, hp, q, hq, rfl⟩ := mem_pq_going.1 hx
      have h1 := (wsum_tr a).1 p hp
      have h2 := (wsum_tr b).1 q hq
      show wsum f p.1 + wsum f (if p.2 = 1 then q else ([], 1)).1 ≤ _
      split
      · omega
      · rw [wsum_nil]; omega⟩
  | stack a c => ⟨fun x hx => by (cases hx), fun x hx => by
      obtain ⟨p, hp, q, hq, rfl⟩ := mem_pq_stack.1 hx
      have h1 := (wsum_tr a).2 p hp
      have h2 := (wsum_tr c).1 q hq
      have h3 := wsum_then (f := f) p.2 q
      rw [nm, wsum_append]
      show wsum f p.1.1 + wsum f (thenT p.2 q).1 ≤ _
      omega⟩
  | fin s c => ⟨fun x hx => by (cases hx), fun x hx => by
      obtain ⟨q, hq, rfl⟩ := mem_pq_fin.1 hx
      have h2 := (wsum_tr c).1 q hq
      rw [nm]
      show wsum f [] + wsum f q.1 ≤ _
      rw [wsum_nil]; omega⟩
end
theorem wsum_len (l : List ByteArray) : wsum (fun _ => 1) l = l.length := by
  induction l with
  | nil => rfl
  | cons a l ih => simp only [wsum, List.map_cons, List.sum_cons, List.length_cons] at ih ⊢; omega
theorem len_tr {m : Tm} {x : Tc} (h : x ∈ m.tr) : x.1.length ≤ m.nm.length := by
  have := (wsum_tr (f := fun _ => 1) m).1 x h
  rwa [wsum_len, wsum_len] at this
theorem len_pq {m : Tm} {x : Qc} (h : x ∈ m.pq) : x.1.1.length + x.2.1.length ≤ m.nm.length := by
  have := (wsum_tr (f := fun _ => 1) m).2 x h
  rwa [wsum_len, wsum_len, wsum_len] at this
/-! ### how many -/
def fct : Nat → Nat
  | 0 => 1
  | n + 1 => (n + 1) * fct n
theorem fct_pos : ∀ n, 1 ≤ fct n
  | 0 => Nat.le_refl _
  | n + 1 => by
    have := fct_pos n
    rw [fct, Nat.succ_mul]; omega
theorem fct_le : ∀ {m n : Nat}, m ≤ n → fct m ≤ fct n
  | m, 0, h => by rw [Nat.le_zero.1 h]; exact Nat.le_refl _
  | m, n + 1, h => by
    rcases Nat.lt_or_ge n m with h1 | h1
    · rw [show m = n + 1 by omega]; exact Nat.le_refl _
    · have := fct_le h1
      rw [fct, Nat.succ_mul]; omega
theorem chN_fct : ∀ m n : Nat, chN m n * (fct m * fct n) = fct (m + n)
  | 0, n => by rw [chN, fct, Nat.zero_add]; simp
  | m + 1, 0 => by rw [chN_zero, Nat.add_zero]; simp [fct]
  | m + 1, n + 1 => by
    have h1 := chN_fct m (n + 1)
    have h2 := chN_fct (m + 1) n
    rw [chN, Nat.add_mul]
    have e1 : chN m (n + 1) * (fct (m + 1) * fct (n + 1)) = (m + 1) * fct (m + n + 1) := by
      rw [show m + n + 1 = m + (n + 1) by omega, ← h1, fct]
      simp only [Nat.mul_assoc, Nat.mul_left_comm]
    have e2 : chN (m + 1) n * (fct (m + 1) * fct (n + 1)) = (n + 1) * fct (m + n + 1) := by
      rw [show m + n + 1 = m + 1 + n by omega, ← h2, show fct (n + 1) = (n + 1) * fct n from rfl]
      simp only [Nat.mul_assoc, Nat.mul_left_comm]
    rw [e1, e2, ← Nat.add_mul, show m + 1 + (n + 1) = (m + n + 1) + 1 by omega]
    rfl
theorem fct_mul (m n : Nat) : fct m * fct n ≤ fct (m + n) := by
  rw [← chN_fct m n]
  have : 1 ≤ chN m n := by
    have h1 := chN_fct m n
    have h2 := fct_pos (m + n)
    rcases Nat.eq_zero_or_pos (chN m n) with h | h
    · rw [h, Nat.zero_mul] at h1; omega
    · exact h
  exact Nat.le_mul_of_pos_left _ this
theorem chN_comm : ∀ m n, chN m n = chN n m
  | 0, n => by rw [chN_zero, chN]
  | m + 1, 0 => by rw [chN_zero, chN]
  | m + 1, n + 1 => by rw [chN, chN, chN_comm m (n + 1), chN_comm (m + 1) n]; omega
theorem chN_r : ∀ m n, chN m n ≤ chN m (n + 1)
  | 0, n => by rw [chN, chN]; exact Nat.le_refl _
  | m + 1, 0 => by rw [chN_zero, chN]; have := chN_fct m 1; have h2 := chN_zero (m + 1); omega
  | m + 1, n + 1 => by
    have h1 := chN_r m (n + 1)
    have h2 := chN_r (m + 1) n
    rw [chN, show chN (m + 1) (n + 1 + 1) = chN m (n + 1 + 1) + chN (m + 1) (n + 1) from by rw [chN]]
    omega
theorem chN_mono {m m' n n' : Nat} (hm : m ≤ m') (hn : n ≤ n') : chN m n ≤ chN m' n' := by
  have r : ∀ {a b c : Nat}, b ≤ c → chN a b ≤ chN a c := fun {a b c} h => by
    obtain ⟨d, rfl⟩ := Nat.exists_eq_add_of_le h
    induction d with
    | zero => exact Nat.le_refl _
    | succ d ih => exact Nat.le_trans (ih (by omega)) (chN_r a (b + d))
  refine Nat.le_trans (r hn) ?_
  rw [chN_comm m, chN_comm m']
  exact r hm
theorem chN_two : ∀ (m n m' n' : Nat), chN m n * chN m' n' ≤ chN (m + m') (n + n')
  | 0, n, m', n' => by rw [chN, Nat.one_mul]; exact chN_mono (by omega) (by omega)
  | m + 1, 0, m', n' => by rw [chN_zero, Nat.one_mul]; exact chN_mono (by omega) (by omega)
  | m + 1, n + 1, m', n' => by
    have h1 := chN_two m (n + 1) m' n'
    have h2 := chN_two (m + 1) n m' n'
    rw [chN, Nat.add_mul, show m + 1 + m' = m + m' + 1 by omega, show n + 1 + n' = n + n' + 1 by omega, chN]
    rw [show n + 1 + n' = n + n' + 1 by omega] at h1
    rw [show m + 1 + m' = m + m' + 1 by omega] at h2
    omega
/-- How many there are for the choices alone. -/
def cw : Tm → Nat
  | act _ | skip | throw | over _ => 1
  | yield => 2
  | seq a b | par a b | hand a b | going a b | stack a b => a.cw * b.cw
  | alt a b => a.cw + b.cw
  | pair a b => a.cw * b.cw + 1
  | block a | fin _ a => a.cw
def leaves : Tm → Nat
  | act _ | skip | throw | over _ | yield => 1
  | seq a b | par a b | hand a b | going a b | stack a b | alt a b | pair a b => a.leaves + b.leaves
  | block a | fin _ a => a.leaves
theorem leaves_size : ∀ m : Tm, 2 * m.leaves ≤ m.size + 1
  | act _ | skip | throw | over _ | yield => Nat.le_refl _
  | seq a b => by have := leaves_size a; have := leaves_size b; rw [leaves, size_seq]; omega
  | par a b => by have := leaves_size a; have := leaves_size b; rw [leaves, size_par]; omega
  | hand a b => by have := leaves_size a; have := leaves_size b; rw [leaves, size_hand]; omega
  | going a b => by have := leaves_size a; have := leaves_size b; rw [leaves, size_going]; omega
  | stack a b => by have := leaves_size a; have := leaves_size b; rw [leaves, size_stack]; omega
  | alt a b => by have := leaves_size a; have := leaves_size b; rw [leaves, size_alt]; omega
  | pair a b => by have := leaves_size a; have := leaves_size b; rw [leaves, size_pair]; omega
  | block a => by have := leaves_size a; rw [leaves, size_block]; omega
  | fin _ a => by have := leaves_size a; rw [leaves, size_fin]; omega
theorem cw_pos : ∀ m : Tm, 1 ≤ m.cw
  | act _ | skip | throw | over _ => Nat.le_refl _
  | yield => by decide
  | seq a b | par a b | hand a b | going a b | stack a b => by rw [cw]; exact Nat.mul_pos (cw_pos a) (cw_pos b)
  | alt a b => by have := cw_pos a; rw [cw]; omega
  | pair a b => by rw [cw]; omega
  | block a | fin _ a => by rw [cw]; exact cw_pos a
theorem mul_pre {x y a b : Nat} (hx : x + 1 ≤ a) (hy : y + 1 ≤ b) : x * y + x + y + 1 ≤ a * b := by
  have := Nat.mul_le_mul hx hy
  have e : (x + 1) * (y + 1) = x * y + x + y + 1 := by rw [Nat.add_mul, Nat.mul_add]; omega
  omega
theorem cw_le : ∀ m : Tm, m.cw + 1 ≤ 3 ^ m.leaves
  | act _ | skip | throw | over _ => by show 1 + 1 ≤ 3 ^ 1; decide
  | yield => by decide
  | seq a b | par a b | hand a b | going a b | stack a b => by
    have h := mul_pre (cw_le a) (cw_le b)
    rw [cw, leaves, Nat.pow_add]; omega
  | alt a b => by
    have h := mul_pre (cw_le a) (cw_le b)
    have h1 := cw_pos a
    have h2 := cw_pos b
    rw [cw, leaves, Nat.pow_add]; omega
  | pair a b => by
    have h := mul_pre (cw_le a) (cw_le b)
    have h1 := cw_pos a
    rw [cw, leaves, Nat.pow_add]; omega
  | block a | fin _ a => by rw [cw, leaves]; exact cw_le a
/-- How many traces, or pairs, at most. -/
def big (m : Tm) : Nat := m.cw * fct m.nm.length
theorem big_small {m : Tm} (h1 : m.size ≤ 24) (h2 : m.nm.length ≤ 6) : m.big ≤ 400000000 := by
  have h3 := leaves_size m
  have h4 := cw_le m
  have h5 : 3 ^ m.leaves ≤ 3 ^ 12 := Nat.pow_le_pow_right (by omega) (by omega)
  have h6 := fct_le h2
  have : m.cw ≤ 531440 := by
    have : 3 ^ 12 = 531441 := by decide
    omega
  have h7 : m.big ≤ 531440 * fct 6 := Nat.mul_le_mul this h6
  have : fct 6 = 720 := rfl
  omega
theorem big_two (a b : Tm) (x : Nat) (hx : x ≤ a.nm.length + b.nm.length) : a.big * b.big ≤ a.cw * b.cw * fct (a.nm.length + b.nm.length) := by
  unfold big
  rw [Nat.mul_mul_mul_comm]
  exact Nat.mul_le_mul_left _ (fct_mul _ _)
theorem big_mul {a b m : Tm} (hn : m.nm = a.nm ++ b.nm) (hc : a.cw * b.cw ≤ m.cw) : a.big * b.big ≤ m.big := by
  refine Nat.le_trans (big_two a b 0 (by omega)) ?_
  unfold big
  rw [hn, List.length_append]
  exact Nat.mul_le_mul_right _ hc
theorem big_add {a b m : Tm} (hn : m.nm = a.nm ++ b.nm) (hc : m.cw = a.cw + b.cw) : a.big + b.big ≤ m.big := by
  unfold big
  rw [hn, hc, List.length_append, Nat.add_mul]
  exact Nat.add_le_add (Nat.mul_le_mul_left _ (fct_le (by omega))) (Nat.mul_le_mul_left _ (fct_le (by omega)))
theorem big_par {a b : Tm} : a.big * (b.big * chN a.nm.length b.nm.length) = (par a b).big := by
  unfold big
  rw [nm, cw, List.length_append, ← chN_fct]
  simp only [Nat.mul_assoc, Nat.mul_left_comm, Nat.mul_comm]
theorem len_parE (e : Int) (p q : List ByteArray) : (parE e p q).length ≤ chN p.length q.length := by
  unfold parE mixS
  rw [List.length_map]
  exact Nat.le_trans (length_canon_le _) (Nat.le_of_eq (length_mixes _ _ _))
theorem len_parF (a b : Qc) : (parF a b).length ≤ chN (a.1.1.length + a.2.1.length) (b.1.1.length + b.2.1.length) := by
  unfold parF
  refine Nat.le_trans (len_flatMap (k := chN a.2.1.length b.2.1.length) fun p _ => by rw [List.length_map]; exact len_parE _ _ _) ?_
  refine Nat.le_trans (Nat.mul_le_mul_right _ (len_parE _ _ _)) ?_
  exact chN_two _ _ _ _
/-- The rows that are put in order. -/
theorem raw_par {a b : Tm} (ha : a.tr.length ≤ a.big) (hb : b.tr.length ≤ b.big) : (crossL a.tr b.tr fun p q => parE (bs p.2 q.2) p.1 q.1).length ≤ (par a b).big := by
  refine Nat.le_trans (len_crossL (k := chN a.nm.length b.nm.length) fun p hp q hq => Nat.le_trans (len_parE _ _ _) (chN_mono (len_tr hp) (len_tr hq))) ?_
  rw [← big_par]
  exact Nat.mul_le_mul ha (Nat.mul_le_mul_right _ hb)
theorem raw_parQ {a b : Tm} (ha : a.pq.length ≤ a.big) (hb : b.pq.length ≤ b.big) : (crossL a.pq b.pq parF).length ≤ (par a b).big := by
  refine Nat.le_trans (len_crossL (k := chN a.nm.length b.nm.length) fun p hp q hq => Nat.le_trans (len_parF _ _) (chN_mono (len_pq hp) (len_pq hq))) ?_
  rw [← big_par]
  exact Nat.mul_le_mul ha (Nat.mul_le_mul_right _ hb)
theorem raw_cross {α β γ : Type} {A : List α} {B : List β} {f : α → β → γ} {a b m : Tm} (hA : A.length ≤ a.big) (hB : B.length ≤ b.big) (hn : m.nm = a.nm ++ b.nm) (hc : a.cw * b.cw ≤ m.cw) : (cross1 A B f).length ≤ m.big :=
  Nat.le_trans len_cross1 (Nat.le_trans (Nat.mul_le_mul hA hB) (big_mul hn hc))
theorem raw_pair {a b : Tm} (ha : a.tr.length ≤ a.big) (hb : b.tr.length ≤ b.big) : (cross1 a.tr b.tr goF).length + 1 ≤ (pair a b).big := by
  have h1 : (cross1 a.tr b.tr goF).length ≤ a.cw * b.cw * fct (a.nm.length + b.nm.length) := Nat.le_trans len_cross1 (Nat.le_trans (Nat.mul_le_mul ha hb) (big_two a b 0 (by omega)))
  have h2 := fct_pos (a.nm.length + b.nm.length)
  unfold big
  rw [cw, nm, List.length_append, Nat.add_mul, Nat.one_mul]
  omega
theorem raw_block {Q : List Qc} : (Q.flatMap blkF).length ≤ Q.length := by
  have := len_flatMap (f := blkF) (k := 1) (A := Q) fun x _ => by unfold blkF; split <;> first | simp | (split <;> simp)
  rwa [Nat.mul_one] at this
theorem len_sem : ∀ m : Tm, m.tr.length ≤ m.big ∧ m.pq.length ≤ m.big
  | act s => ⟨by show _ ≤ 1; exact Nat.le_refl _, Nat.zero_le _⟩
  | skip => ⟨by show _ ≤ 1; exact Nat.le_refl _, Nat.zero_le _⟩
  | throw => ⟨by show _ ≤ 1; exact Nat.le_refl _, Nat.zero_le _⟩
  | over s => ⟨by show _ ≤ 1; exact Nat.le_refl _, Nat.zero_le _⟩
  | yield => ⟨length_canon_le _, Nat.zero_le _⟩
  | seq a b => ⟨Nat.le_trans (length_canon_le _) (raw_cross (len_sem a).1 (len_sem b).1 rfl (Nat.le_refl _)), Nat.le_trans (length_canon_le _) (raw_cross (len_sem a).2 (len_sem b).2 rfl (Nat.le_refl _))⟩
  | alt a b => by
    refine ⟨Nat.le_trans (length_canon_le _) ?_, Nat.le_trans (length_canon_le _) ?_⟩
    · rw [List.length_append]; exact Nat.le_trans (Nat.add_le_add (len_sem a).1 (len_sem b).1) (big_add rfl rfl)
    · rw [List.length_append]; exact Nat.le_trans (Nat.add_le_add (len_sem a).2 (len_sem b).2) (big_add rfl rfl)
  | par a b => ⟨Nat.le_trans (length_canon_le _) (raw_par (len_sem a).1 (len_sem b).1), Nat.le_trans (length_canon_le _) (raw_parQ (len_sem a).2 (len_sem b).2)⟩
  | hand a b => ⟨Nat.le_trans (length_canon_le _) (raw_cross (len_sem a).1 (len_sem b).1 rfl (Nat.le_refl _)), Nat.zero_le _⟩
  | block a => ⟨Nat.le_trans (length_canon_le _) (Nat.le_trans raw_block (len_sem a).2), Nat.zero_le _⟩
  | pair a b => ⟨Nat.zero_le _, Nat.le_trans (length_canon_le _) (by rw [List.length_append]; exact raw_pair (len_sem a).1 (len_sem b).1)⟩
  | going a b => ⟨Nat.zero_le _, Nat.le_trans (length_canon_le _) (raw_cross (len_sem a).1 (len_sem b).1 rfl (Nat.le_refl _))⟩
  | stack a c => ⟨Nat.zero_le _, Nat.le_trans (length_canon_le _) (raw_cross (len_sem a).2 (len_sem c).1 rfl (Nat.le_refl _))⟩
  | fin s c => ⟨Nat.zero_le _, Nat.le_trans (length_canon_le _) (by rw [List.length_map]; exact (len_sem c).1)⟩
/-- A part of a small one is small. -/
theorem nm_row : ∀ m : Tm, m.nm.length = m.row.countP fun x => decide (x.1 ∈ ([1] : List Int))
  | act s | skip | throw | yield | over s => rfl
  | seq a b => by rw [nm, List.length_append, nm_row a, nm_row b, row_seq, List.countP_cons_of_neg (by decide), List.countP_append]
  | alt a b => by rw [nm, List.length_append, nm_row a, nm_row b, row_alt, List.countP_cons_of_neg (by decide), List.countP_append]
  | par a b => by rw [nm, List.length_append, nm_row a, nm_row b, row_par, List.countP_cons_of_neg (by decide), List.countP_append]
  | hand a b => by rw [nm, List.length_append, nm_row a, nm_row b, row_hand, List.countP_cons_of_neg (by decide), List.countP_append]
  | pair a b => by rw [nm, List.length_append, nm_row a, nm_row b, row_pair, List.countP_cons_of_neg (by decide), List.countP_append]
  | going a b => by rw [nm, List.length_append, nm_row a, nm_row b, row_going, List.countP_cons_of_neg (by decide), List.countP_append]
  | stack a b => by rw [nm, List.length_append, nm_row a, nm_row b, row_stack, List.countP_cons_of_neg (by decide), List.countP_append]
  | block a => by rw [nm, nm_row a, row_block, List.countP_cons_of_neg (by decide)]
  | fin s a => by rw [nm, nm_row a, row_fin, List.countP_cons_of_neg (by simp)]
def small (m : Tm) : Prop := m.size ≤ 24 ∧ m.nm.length ≤ 6
end Tm
end Go.Rd
