/- What comes of what goes on of itself: settling. Plain Lean, no program in sight. -/
import Derived.Test.YtgogodeknkoalaaGreatDoorM3
namespace Go.Rd
open Go Go.Sv
set_option linter.unusedVariables false
set_option linter.unusedSimpArgs false
namespace Tm
def stack' (x c : Tm) : Tm := match x with
  | fin s d => fin s (seq d c)
  | y => stack y c
def par' (x y : Tm) : Tm := match x, y with
  | over s, over z => over (bs s z)
  | fin s c, fin z d => fin (bs s z) (par c d)
  | x, y => par x y
theorem stack'_size (x c : Tm) : (stack' x c).size = x.size + c.size + 1 := by
  cases x <;> simp only [stack', size_fin, size_seq, size_stack]; omega
theorem par'_size (x y : Tm) : (par' x y).size ≤ x.size + y.size + 1 := by
  unfold par'
  split
  · simp only [size_over]; omega
  · simp only [size_fin, size_par]; omega
  · simp only [size_par]; omega
/-- One round of settling: f settles what is less. -/
def stS (f : Tm → Tm) : Tm → Tm
  | skip => over 1
  | throw => over 2
  | hand a b => (match f a with
    | over s => if s = 2 then f b else over s
    | y => hand y b)
  | seq a b => (match f a with
    | over s => if s = 1 then f b else over s
    | fin s c => if s = 1 then stack' (f b) c else fin s c
    | y => seq y b)
  | stack a c => stack' (f a) c
  | going a b => (match f a with
    | over s => if s = 1 then fin 1 b else fin s skip
    | y => going y b)
  | par a b => par' (f a) (f b)
  | block a => (match f a with
    | fin s c => if s = 1 then over 1 else if s = 2 then f c else block (fin s c)
    | y => block y)
  | m => m
def stF : Nat → Tm → Tm
  | 0, m => m
  | n + 1, m => stS (stF n) m
theorem stS_size {f : Tm → Tm} (hf : ∀ x, (f x).size ≤ x.size) : ∀ m, (stS f m).size ≤ m.size := by
  intro m
  cases m with
  | skip => exact Nat.le_refl _
  | throw => exact Nat.le_refl _
  | hand a b =>
    have h1 := hf a
    have h2 := hf b
    simp only [stS]
    split
    · split
      · rw [size_hand]; omega
      · rw [size_hand, size_over]; omega
    · rw [size_hand, size_hand]; omega
  | seq a b =>
    have h1 := hf a
    have h2 := hf b
    simp only [stS]
    split
    · split
      · rw [size_seq]; omega
      · rw [size_seq, size_over]; omega
    · rename_i s c e
      rw [e, size_fin] at h1
      split
      · rw [stack'_size, size_seq]; omega
      · rw [size_fin, size_seq]; omega
    · rw [size_seq, size_seq]; omega
  | stack a c =>
    have h1 := hf a
    simp only [stS]
    rw [stack'_size, size_stack]; omega
  | going a b =>
    have h1 := hf a
    have h2 := b.size_pos
    simp only [stS]
    split
    · split
      · rw [size_going, size_fin]; omega
      · rw [size_going, size_fin, size_skip]; omega
    · rw [size_going, size_going]; omega
  | par a b =>
    have h1 := hf a
    have h2 := hf b
    have := par'_size (f a) (f b)
    simp only [stS]
    rw [size_par]; omega
  | block a =>
    have h1 := hf a
    simp only [stS]
    split
    · rename_i s c e
      rw [e, size_fin] at h1
      have h2 := hf c
      split
      · rw [size_block, size_over]; omega
      · split
        · rw [size_block]; omega
        · rw [size_block, size_block, size_fin]; omega
    · rw [size_block, size_block]; omega
  | _ => exact Nat.le_refl _
theorem stF_size : ∀ (n : Nat) (m : Tm), (stF n m).size ≤ m.size
  | 0, m => Nat.le_refl _
  | n + 1, m => stS_size (stF_size n) m
theorem stS_congr {f g : Tm → Tm} {m : Tm} (hf : ∀ x, (f x).size ≤ x.size) (h : ∀ x : Tm, x.size < m.size → f x = g x) : stS f m = stS g m := by
  cases m with
  | hand a b => simp only [stS, h a (by rw [size_hand]; omega), h b (by rw [size_hand]; omega)]
  | seq a b => simp only [stS, h a (by rw [size_seq]; omega), h b (by rw [size_seq]; omega)]
  | stack a c => simp only [stS, h a (by rw [size_stack]; omega)]
  | going a b => simp only [stS, h a (by rw [size_going]; omega)]
  | par a b => simp only [stS, h a (by rw [size_par]; omega), h b (by rw [size_par]; omega)]
  | block a =>
    have h1 := hf a
    simp only [stS, ← h a (by rw [size_block]; omega)]
    split
    · rename_i s c e
      rw [e, size_fin] at h1
      rw [h c (by rw [size_block]; omega)]
    · rfl
  | _ => rfl
theorem stF_more : ∀ (n : Nat) (m : Tm), m.size ≤ n → stF n m = stF (n + 1) m
  | 0, m, h => by have := m.size_pos; omega
  | n + 1, m, h => stS_congr (stF_size n) fun x hx => stF_more n x (by omega)
theorem stF_at : ∀ (k : Nat) (m : Tm), stF (m.size + k) m = stF m.size m
  | 0, m => rfl
  | k + 1, m => by
    rw [← stF_at k m]
    exact (stF_more (m.size + k) m (by omega)).symm
/-- What comes of what goes on. -/
def st (m : Tm) : Tm := stF m.size m
theorem st_size (m : Tm) : m.st.size ≤ m.size := stF_size _ m
theorem st_eq (m : Tm) : m.st = stS st m := by
  have hp := m.size_pos
  unfold st
  obtain ⟨k, hk⟩ : ∃ k, m.size = k + 1 := ⟨m.size - 1, by omega⟩
  rw [hk]
  refine stS_congr (stF_size k) fun x hx => ?_
  obtain ⟨j, rfl⟩ : ∃ j, k = x.size + j := ⟨k - x.size, by omega⟩
  exact stF_at j x
theorem st_act (s : ByteArray) : (act s).st = act s := by rw [st_eq]; rfl
theorem st_yield : yield.st = yield := by rw [st_eq]; rfl
theorem st_skip : skip.st = over 1 := by rw [st_eq]; rfl
theorem st_throw : throw.st = over 2 := by rw [st_eq]; rfl
theorem st_over (s : Int) : (over s).st = over s := by rw [st_eq]; rfl
theorem st_alt (a b : Tm) : (alt a b).st = alt a b := by rw [st_eq]; rfl
theorem st_pair (a b : Tm) : (pair a b).st = pair a b := by rw [st_eq]; rfl
theorem st_fin (s : Int) (a : Tm) : (fin s a).st = fin s a := by rw [st_eq]; rfl
/-- What comes of a Hand, whose first one is settled. -/
def hand' (x b : Tm) : Tm := match x with
  | over s => if s = 2 then b.st else over s
  | y => hand y b
def seq' (x b : Tm) : Tm := match x with
  | over s => if s = 1 then b.st else over s
  | fin s c => if s = 1 then stack' b.st c else fin s c
  | y => seq y b
def going' (x b : Tm) : Tm := match x with
  | over s => if s = 1 then fin 1 b else fin s skip
  | y => going y b
def block' (x : Tm) : Tm := match x with
  | fin s c => if s = 1 then over 1 else if s = 2 then c.st else block (fin s c)
  | y => block y
theorem st_hand (a b : Tm) : (hand a b).st = hand' a.st b := by rw [st_eq]; rfl
theorem st_seq (a b : Tm) : (seq a b).st = seq' a.st b := by rw [st_eq]; rfl
theorem st_stack (a c : Tm) : (stack a c).st = stack' a.st c := by rw [st_eq]; rfl
theorem st_going (a b : Tm) : (going a b).st = going' a.st b := by rw [st_eq]; rfl
theorem st_par (a b : Tm) : (par a b).st = par' a.st b.st := by rw [st_eq]; rfl
theorem st_block (a : Tm) : (block a).st = block' a.st := by rw [st_eq]; rfl
/-- Settled: nothing goes on of itself. -/
def settled (m : Tm) : Prop := m.st = m
end Tm
end Go.Rd
