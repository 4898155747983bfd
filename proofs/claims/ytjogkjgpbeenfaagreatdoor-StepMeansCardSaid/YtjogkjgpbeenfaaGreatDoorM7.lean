/- Traces: what the documents says of them, in plain Lean; no program in sight. -/
import Derived.Test.YtjogkjgpbeenfaaGreatDoorM6
namespace Go.Rd
open Go Go.Sv
set_option linter.unusedVariables false
set_option linter.unusedSimpArgs false
def zir (p q : Tc) : Tc := if p.2 = 1 then (p.1 ++ q.1, q.2) else p
def zid : List ByteArray → List ByteArray → List ByteArray → List (List ByteArray)
  | D, [], [] => [D]
  | D, x :: p, [] => zid (D ++ [x]) p []
  | D, [], y :: q => zid (D ++ [y]) [] q
  | D, x :: p, y :: q => zid (D ++ [x]) p (y :: q) ++ zid (D ++ [y]) (x :: p) q
termination_by _ p q => p.length + q.length
inductive Mx {α : Type} : List α → List α → List α → Prop where
  | nil : Mx [] [] []
  | l {x : α} {p q r : List α} : Mx p q r → Mx (x :: p) q (x :: r)
  | r {y : α} {p q r : List α} : Mx p q r → Mx p (y :: q) (y :: r)
namespace Mx
variable {α : Type}
theorem right : ∀ (q : List α), Mx [] q q
  | [] => .nil
  | y :: q => .r (right q)
theorem left : ∀ (p : List α), Mx p [] p
  | [] => .nil
  | y :: q => .l (left q)
theorem qrz {q r : List α} (h : Mx [] q r) : r = q := by
  generalize hp : ([] : List α) = p at h
  induction h with
  | nil => rfl
  | l _ _ => cases hp
  | r _ ih => rw [ih hp]
theorem ymk {q r : List α} (h : Mx q [] r) : r = q := by
  generalize hp : ([] : List α) = p at h
  induction h with
  | nil => rfl
  | l _ ih => rw [ih hp]
  | r _ _ => cases hp
theorem symm {p q r : List α} (h : Mx p q r) : Mx q p r := by
  induction h with
  | nil => exact .nil
  | l _ ih => exact .r ih
  | r _ ih => exact .l ih
theorem len {p q r : List α} (h : Mx p q r) : r.length = p.length + q.length := by
  induction h with
  | nil => rfl
  | l _ ih => simp only [List.length_cons, ih]; omega
  | r _ ih => simp only [List.length_cons, ih]; omega
theorem sub {p q r : List α} (h : Mx p q r) : p.Sublist r := by
  induction h with
  | nil => exact .slnil
  | l _ ih => exact ih.cons_cons _
  | r _ ih => exact ih.cons _
end Mx
theorem zww : ∀ {D p q x : List ByteArray}, x ∈ zid D p q ↔ ∃ r, x = D ++ r ∧ Mx p q r
  | D, [], [], x => by
    rw [zid, List.mem_singleton]
    exact ⟨fun h => ⟨[], by simp [h], .nil⟩, fun ⟨r, h, hr⟩ => by rw [hr.qrz] at h; simpa using h⟩
  | D, a :: p, [], x => by
    rw [zid, zww]
    constructor
    · rintro ⟨r, rfl, hr⟩
      exact ⟨a :: r, by simp, .l hr⟩
    · rintro ⟨r, rfl, hr⟩
      rw [hr.ymk]
      exact ⟨p, by simp, .left p⟩
  | D, [], b :: q, x => by
    rw [zid, zww]
    constructor
    · rintro ⟨r, rfl, hr⟩
      exact ⟨b :: r, by simp, .r hr⟩
    · rintro ⟨r, rfl, hr⟩
      rw [hr.qrz]
      exact ⟨q, by simp, .right q⟩
  | D, a :: p, b :: q, x => by
    rw [zid, List.mem_append, zww, zww]
    constructor
    · rintro (⟨r, rfl, hr⟩ | ⟨r, rfl, hr⟩)
      · exact ⟨a :: r, by simp, .l hr⟩
      · exact ⟨b :: r, by simp, .r hr⟩
    · rintro ⟨r, rfl, hr⟩
      cases hr with
      | l hr => exact .inl ⟨_, by simp, hr⟩
      | r hr => exact .inr ⟨_, by simp, hr⟩
termination_by _ p q => p.length + q.length
def chN : Nat → Nat → Nat
  | 0, _ => 1
  | _ + 1, 0 => 1
  | m + 1, n + 1 => chN m (n + 1) + chN (m + 1) n
theorem zyx (m : Nat) : chN m 0 = 1 := by cases m <;> rw [chN]
theorem zky : ∀ (D p q : List ByteArray), (zid D p q).length = chN p.length q.length
  | D, [], [] => by rw [zid]; simp [chN]
  | D, x :: p, [] => by rw [zid, zky _ p []]; simp [zyx]
  | D, [], y :: q => by rw [zid, zky _ [] q]; simp [chN]
  | D, x :: p, y :: q => by rw [zid, List.length_append, zky, zky]; simp [chN]
termination_by _ p q => p.length + q.length
theorem ygs : ∀ (m n : Nat), chN m n ≤ 2 ^ (m + n)
  | 0, n => by rw [chN]; exact Nat.one_le_two_pow
  | m + 1, 0 => by rw [chN]; exact Nat.one_le_two_pow
  | m + 1, n + 1 => by
    have h1 := ygs m (n + 1)
    have h2 := ygs (m + 1) n
    rw [chN, show m + 1 + (n + 1) = (m + n + 1) + 1 by omega, Nat.pow_succ]
    rw [show m + (n + 1) = m + n + 1 by omega] at h1
    rw [show m + 1 + n = m + n + 1 by omega] at h2
    omega
theorem qbg {D p q : List ByteArray} {n : Nat} (h : p.length + q.length ≤ n) : (zid D p q).length ≤ 2 ^ n := by
  rw [zky]
  exact Nat.le_trans (ygs _ _) (Nat.pow_le_pow_right (by omega) h)
def mixS (a b : List ByteArray) : List (List ByteArray) := canon cmpA (zid [] a b)
theorem ygf {a b x : List ByteArray} : x ∈ mixS a b ↔ Mx a b x := by
  unfold mixS
  rw [zbv ordA, zww]
  exact ⟨fun ⟨r, h, hr⟩ => by rw [h]; exact hr, fun h => ⟨x, rfl, h⟩⟩
theorem qdv {a b : List ByteArray} {n : Nat} (h : a.length + b.length ≤ n) : (mixS a b).length ≤ 2 ^ n := Nat.le_trans (zax _) (qbg h)
def parE (e : Int) (p q : List ByteArray) : List Tc := (mixS p q).map fun l => (l, e)
theorem qcr {e : Int} {p q : List ByteArray} {x : Tc} : x ∈ parE e p q ↔ Mx p q x.1 ∧ x.2 = e := by
  unfold parE
  rw [List.mem_map]
  constructor
  · rintro ⟨l, h, rfl⟩
    exact ⟨ygf.1 h, rfl⟩
  · rintro ⟨h, rfl⟩
    exact ⟨x.1, ygf.2 h, rfl⟩
/-! ### two rising rows, made one -/
def znd {α : Type} (c : α → α → Ordering) : List α → List α → List α
  | [], b => b
  | x :: a, [] => x :: a
  | x :: a, y :: b => match c x y with
    | .lt => x :: znd c a (y :: b)
    | .eq => x :: znd c a b
    | .gt => y :: znd c (x :: a) b
termination_by a b => a.length + b.length
theorem zox {α : Type} {c : α → α → Ordering} (h : Ord3 c) : ∀ {a b : List α} {z : α}, z ∈ znd c a b ↔ z ∈ a ∨ z ∈ b
  | [], b, z => by rw [znd]; simp
  | x :: a, [], z => by rw [znd]; simp
  | x :: a, y :: b, z => by
    rw [znd]
    split
    · rw [List.mem_cons, zox h, List.mem_cons (l := a), or_assoc]
    · rename_i he
      rw [h.eq] at he
      subst he
      rw [List.mem_cons, zox h]
      simp only [List.mem_cons]
      constructor
      · rintro (h | h | h) <;> simp [h]
      · rintro ((h | h) | h | h) <;> simp [h]
    · rw [List.mem_cons, zox h]
      simp only [List.mem_cons]
      constructor
      · rintro (h | (h | h) | h) <;> simp [h]
      · rintro ((h | h) | h | h) <;> simp [h]
termination_by a b => a.length + b.length
theorem qcf {α : Type} {c : α → α → Ordering} (h : Ord3 c) : ∀ {a b : List α}, Srt c a → Srt c b → Srt c (znd c a b)
  | [], b, _, hb => by rw [znd]; exact hb
  | x :: a, [], ha, _ => by rw [znd]; exact ha
  | x :: a, y :: b, ha, hb => by
    obtain ⟨ha1, ha2⟩ := zle.1 ha
    obtain ⟨hb1, hb2⟩ := zle.1 hb
    rw [znd]
    split
    · rename_i he
      refine zle.2 ⟨fun z hz => ?_, qcf h ha2 hb⟩
      rcases (zox h).1 hz with hz | hz
      · exact ha1 z hz
      · rcases List.mem_cons.1 hz with rfl | hz
        · exact he
        · exact h.tr _ _ _ he (hb1 z hz)
    · rename_i he
      rw [h.eq] at he
      subst he
      refine zle.2 ⟨fun z hz => ?_, qcf h ha2 hb2⟩
      rcases (zox h).1 hz with hz | hz
      · exact ha1 z hz
      · exact hb1 z hz
    · rename_i he
      rw [h.gt] at he
      refine zle.2 ⟨fun z hz => ?_, qcf h ha hb2⟩
      rcases (zox h).1 hz with hz | hz
      · rcases List.mem_cons.1 hz with rfl | hz
        · exact he
        · exact h.tr _ _ _ he (ha1 z hz)
      · exact hb1 z hz
termination_by a b => a.length + b.length
theorem yap {α : Type} {c : α → α → Ordering} (h : Ord3 c) (a b : List α) : znd c (canon c a) (canon c b) = canon c (a ++ b) :=
  qip h (qcf h (zmb h a) (zmb h b)) (zmb h _) fun x => by rw [zox h, zbv h, zbv h, zbv h, List.mem_append]
end Go.Rd
