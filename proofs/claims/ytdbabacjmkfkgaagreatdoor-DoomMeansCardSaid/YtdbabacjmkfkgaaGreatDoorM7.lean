/- Traces: what the documents says of them, in plain Lean; no program in sight. -/
import Derived.Test.YtdbabacjmkfkgaaGreatDoorM6
namespace Go.Rd
open Go Go.Sv
set_option linter.unusedVariables false
set_option linter.unusedSimpArgs false
/-- One behind another one. -/
def thenT (p q : Tc) : Tc := if p.2 = 1 then (p.1 ++ q.1, q.2) else p
/-- All rows of two, behind what is done. -/
def mixes : List ByteArray → List ByteArray → List ByteArray → List (List ByteArray)
  | D, [], [] => [D]
  | D, x :: p, [] => mixes (D ++ [x]) p []
  | D, [], y :: q => mixes (D ++ [y]) [] q
  | D, x :: p, y :: q => mixes (D ++ [x]) p (y :: q) ++ mixes (D ++ [y]) (x :: p) q
termination_by _ p q => p.length + q.length
/-- A row put together of two. -/
inductive Mx {α : Type} : List α → List α → List α → Prop where
  | nil : Mx [] [] []
  | l {x : α} {p q r : List α} : Mx p q r → Mx (x :: p) q (x :: r)
  | r {y : α} {p q r : List α} : Mx p q r → Mx p (y :: q) (y :: r)
namespace Mx
variable {α : Type}
theorem right : ∀ (q : List α), Mx [] q q
  | [] => .nil
  | y :: q => .r (right q)
theorem left : ∀ (p : List α), Mx p [] p
  | [] => .nil
  | y :: q => .l (left q)
theorem nil_l {q r : List α} (h : Mx [] q r) : r = q := by
  generalize hp : ([] : List α) = p at h
  induction h with
  | nil => rfl
  | l _ _ => cases hp
  | r _ ih => rw [ih hp]
theorem nil_r {q r : List α} (h : Mx q [] r) : r = q := by
  generalize hp : ([] : List α) = p at h
  induction h with
  | nil => rfl
  | l _ ih => rw [ih hp]
  | r _ _ => cases hp
theorem symm {p q r : List α} (h : Mx p q r) : Mx q p r := by
  induction h with
  | nil => exact .nil
  | l _ ih => exact .r ih
  | r _ ih => exact .l ih
theorem len {p q r : List α} (h : Mx p q r) : r.length = p.length + q.length := by
  induction h with
  | nil => rfl
  | l _ ih => simp only [List.length_cons, ih]; omega
  | r _ ih => simp only [List.length_cons, ih]; omega
theorem sub {p q r : List α} (h : Mx p q r) : p.Sublist r := by
  induction h with
  | nil => exact .slnil
  | l _ ih => exact ih.cons_cons _
  | r _ ih => exact ih.cons _
theorem mem {p q r : List α} (h : Mx p q r) (x : α) : x ∈ r ↔ x ∈ p ∨ x ∈ q := by
  induction h with
  | nil => simp
  | l _ ih => simp only [List.mem_cons, ih, or_assoc]
  | r _ ih =>
    simp only [List.mem_cons, ih]
    constructor
    · rintro (h | h | h) <;> simp [h]
    · rintro (h | h | h) <;> simp [h]
theorem count [DecidableEq α] {p q r : List α} (h : Mx p q r) (x : α) : r.count x = p.count x + q.count x := by
  induction h with
  | nil => simp
  | l _ ih => simp only [List.count_cons, ih]; omega
  | r _ ih => simp only [List.count_cons, ih]; omega
end Mx
theorem mem_mixes : ∀ {D p q x : List ByteArray}, x ∈ mixes D p q ↔ ∃ r, x = D ++ r ∧ Mx p q r
  | D, [], [], x => by
    rw [mixes, List.mem_singleton]
    exact ⟨fun h => ⟨[], by simp [h], .nil⟩, fun ⟨r, h, hr⟩ => by rw [hr.nil_l] at h; simpa using h⟩
  | D, a :: p, [], x => by
    rw [mixes, mem_mixes]
    constructor
    · rintro ⟨r, rfl, hr⟩
      exact ⟨a :: r, by simp, .l hr⟩
    · rintro ⟨r, rfl, hr⟩
      rw [hr.nil_r]
      exact ⟨p, by simp, .left p⟩
  | D, [], b :: q, x => by
    rw [mixes, mem_mixes]
    constructor
    · rintro ⟨r, rfl, hr⟩
      exact ⟨b :: r, by simp, .r hr⟩
    · rintro ⟨r, rfl, hr⟩
      rw [hr.nil_l]
      exact ⟨q, by simp, .right q⟩
  | D, a :: p, b :: q, x => by
    rw [mixes, List.mem_append, mem_mixes, mem_mixes]
    constructor
    · rintro (⟨r, rfl, hr⟩ | ⟨r, rfl, hr⟩)
      · exact ⟨a :: r, by simp, .l hr⟩
      · exact ⟨b :: r, by simp, .r hr⟩
    · rintro ⟨r, rfl, hr⟩
      cases hr with
      | l hr => exact .inl ⟨_, by simp, hr⟩
      | r hr => exact .inr ⟨_, by simp, hr⟩
termination_by _ p q => p.length + q.length
/-- How many rows. -/
def chN : Nat → Nat → Nat
  | 0, _ => 1
  | _ + 1, 0 => 1
  | m + 1, n + 1 => chN m (n + 1) + chN (m + 1) n
theorem chN_zero (m : Nat) : chN m 0 = 1 := by cases m <;> rw [chN]
theorem length_mixes : ∀ (D p q : List ByteArray), (mixes D p q).length = chN p.length q.length
  | D, [], [] => by rw [mixes]; simp [chN]
  | D, x :: p, [] => by rw [mixes, length_mixes _ p []]; simp [chN_zero]
  | D, [], y :: q => by rw [mixes, length_mixes _ [] q]; simp [chN]
  | D, x :: p, y :: q => by rw [mixes, List.length_append, length_mixes, length_mixes]; simp [chN]
termination_by _ p q => p.length + q.length
theorem chN_le : ∀ (m n : Nat), chN m n ≤ 2 ^ (m + n)
  | 0, n => by rw [chN]; exact Nat.one_le_two_pow
  | m + 1, 0 => by rw [chN]; exact Nat.one_le_two_pow
  | m + 1, n + 1 => by
    have h1 := chN_le m (n + 1)
    have h2 := chN_le (m + 1) n
    rw [chN, show m + 1 + (n + 1) = (m + n + 1) + 1 by omega, Nat.pow_succ]
    rw [show m + (n + 1) = m + n + 1 by omega] at h1
    rw [show m + 1 + n = m + n + 1 by omega] at h2
    omega
theorem length_mixes_le {D p q : List ByteArray} {n : Nat} (h : p.length + q.length ≤ n) : (mixes D p q).length ≤ 2 ^ n := by
  rw [length_mixes]
  exact Nat.le_trans (chN_le _ _) (Nat.pow_le_pow_right (by omega) h)
/-- All rows of two, each once, rising. -/
def mixS (a b : List ByteArray) : List (List ByteArray) := canon cmpA (mixes [] a b)
theorem mem_mixS {a b x : List ByteArray} : x ∈ mixS a b ↔ Mx a b x := by
  unfold mixS
  rw [mem_canon ordA, mem_mixes]
  exact ⟨fun ⟨r, h, hr⟩ => by rw [h]; exact hr, fun h => ⟨x, rfl, h⟩⟩
theorem length_mixS_le {a b : List ByteArray} {n : Nat} (h : a.length + b.length ≤ n) : (mixS a b).length ≤ 2 ^ n := Nat.le_trans (length_canon_le _) (length_mixes_le h)
/-- All traces of two, side by side; e is how both end. -/
def parE (e : Int) (p q : List ByteArray) : List Tc := (mixS p q).map fun l => (l, e)
theorem mem_parE {e : Int} {p q : List ByteArray} {x : Tc} : x ∈ parE e p q ↔ Mx p q x.1 ∧ x.2 = e := by
  unfold parE
  rw [List.mem_map]
  constructor
  · rintro ⟨l, h, rfl⟩
    exact ⟨mem_mixS.1 h, rfl⟩
  · rintro ⟨h, rfl⟩
    exact ⟨x.1, mem_mixS.2 h, rfl⟩
end Go.Rd
