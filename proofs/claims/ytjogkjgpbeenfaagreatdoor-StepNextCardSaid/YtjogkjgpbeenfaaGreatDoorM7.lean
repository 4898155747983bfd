/- Traces: what the documents says of them, in plain Lean; no program in sight. -/
import Derived.Test.YtjogkjgpbeenfaaGreatDoorM6
import Derived.Test.YtjogkjgpbeenfaaGreatDoorW00
namespace Go.Rd
open Go Go.Sv
set_option linter.unusedVariables false
set_option linter.unusedSimpArgs false
/-- All rows of two, behind what is done. -/
def mixes : List ByteArray → List ByteArray → List ByteArray → List (List ByteArray)
  | D, [], [] => [D]
  | D, x :: p, [] => mixes (D ++ [x]) p []
  | D, [], y :: q => mixes (D ++ [y]) [] q
  | D, x :: p, y :: q => mixes (D ++ [x]) p (y :: q) ++ mixes (D ++ [y]) (x :: p) q
termination_by _ p q => p.length + q.length
/-- A row put together of two. -/
inductive Mx {α : Type} : List α → List α → List α → Prop where
  | nil : Mx [] [] []
  | l {x : α} {p q r : List α} : Mx p q r → Mx (x :: p) q (x :: r)
  | r {y : α} {p q r : List α} : Mx p q r → Mx p (y :: q) (y :: r)
namespace Mx
variable {α : Type}
theorem right : ∀ (q : List α), Mx [] q q
  | [] => .nil
  | y :: q => .r (right q)
theorem left : ∀ (p : List α), Mx p [] p
  | [] => .nil
  | y :: q => .l (left q)
theorem nil_l {q r : List α} (h : Mx [] q r) : r = q := by
  generalize hp : ([] : List α) = p at h
  induction h with
  | nil => rfl
  | l _ _ => cases hp
  | r _ ih => rw [ih hp]
theorem nil_r {q r : List α} (h : Mx q [] r) : r = q := by
  generalize hp : ([] : List α) = p at h
  induction h with
  | nil => rfl
  | l _ ih => rw [ih hp]
  | r _ _ => cases hp
theorem symm {p q r : List α} (h : Mx p q r) : Mx q p r := by
  induction h with
  | nil => exact .nil
  | l _ ih => exact .r ih
  | r _ ih => exact .l ih
theorem len {p q r : List α} (h : Mx p q r) : r.length = p.length + q.length := by
  induction h with
  | nil => rfl
  | l _ ih => simp only [List.length_cons, ih]; omega
  | r _ ih => simp only [List.length_cons, ih]; omega
theorem sub {p q r : List α} (h : Mx p q r) : p.Sublist r := by
  induction h with
  | nil => exact .slnil
  | l _ ih => exact ih.cons_cons _
  | r _ ih => exact ih.cons _
end Mx
theorem mem_mixes : ∀ {D p q x : List ByteArray}, x ∈ mixes D p q ↔ ∃ r, x = D ++ r ∧ Mx p q r
  | D, [], [], x => by
    rw [mixes, List.mem_singleton]
    exact ⟨fun h => ⟨[], by simp [h], .nil⟩, fun ⟨r, h, hr⟩ => by rw [hr.nil_l] at h; simpa using h⟩
  | D, a :: p, [], x => by
    rw [mixes, mem_mixes]
    constructor
    · rintro ⟨r, rfl, hr⟩
      exact ⟨a :: r, by simp, .l hr⟩
    · rintro ⟨r, rfl, hr⟩
      rw [hr.nil_r]
      exact ⟨p, by simp, .left p⟩
  | D, [], b :: q, x => by
    rw [mixes, mem_mixes]
    constructor
    · rintro ⟨r, rfl, hr⟩
      exact ⟨b :: r, by simp, .r hr⟩
    · rintro ⟨r, rfl, hr⟩
      rw [hr.nil_l]
      exact ⟨q, by simp, .right q⟩
  | D, a :: p, b :: q, x => by
    rw [mixes, List.mem_append, mem_mixes, mem_mixes]
    constructor
    · rintro (⟨r, rfl, hr⟩ | ⟨r, rfl, hr⟩)
      · exact ⟨a :: r, by simp, .l hr⟩
      · exact ⟨b :: r, by simp, .r hr⟩
    · rintro ⟨r, rfl, hr⟩
      cases hr with
      | l hr => exact .inl ⟨_, by simp, hr⟩
      | r hr => exact .inr ⟨_, by simp, hr⟩
termination_by _ p q => p.length + q.length
/-- How many rows. -/
def chN : Nat → Nat → Nat
  | 0, _ => 1
  | _ + 1, 0 => 1
  | m + 1, n + 1 => chN m (n + 1) + chN (m + 1) n
theorem chN_zero (m : Nat) : chN m 0 = 1 := by cases m <;> rw [chN]
theorem length_mixes : ∀ (D p q : List ByteArray), (mixes D p q).length = chN p.length q.length
  | D, [], [] => by rw [mixes]; simp [chN]
  | D, x :: p, [] => by rw [mixes, length_mixes _ p []]; simp [chN_zero]
  | D, [], y :: q => by rw [mixes, length_mixes _ [] q]; simp [chN]
  | D, x :: p, y :: q => by rw [mixes, List.length_append, length_mixes, length_mixes]; simp [chN]
termination_by _ p q => p.length + q.length
/-- All rows of two, each once, rising. -/
def mixS (a b : List ByteArray) : List (List ByteArray) := canon cmpA (mixes [] a b)
end Go.Rd

/- What the functions of signs compute (package sign, redressref01): in plain words. -/
namespace Go.Proofs.YtjogkjgpbeenfaaGreatDoor.Sv
open Go Go.Sv Go.Rd
set_option linter.unusedVariables false
set_option linter.unusedSimpArgs false
theorem emp [Dfr] : (ByteArray.empty.toList == ByteArray.empty.toList) = true := beq_self_eq_true _
theorem sign_Is_s [Dfr] (x : Int) : sign_Is x = some (signB x) := by
  rw [sign_Is_eq]
  unfold signB
  by_cases h : x ≥ 1
  · rw [decide_eq_true h]; simp
  · rw [decide_eq_false h]; rfl
theorem sign_Both_s [Dfr] (x y : Int) : sign_Both x y = some (bs x y) := by
  rw [sign_Both_eq]
  simp only [sign_Is_s, Option.bind_some, int_eq, bs]
  cases signB x <;> cases signB y <;> simp
  by_cases h1 : x = 2 <;> by_cases h2 : y = 2 <;> simp [h1, h2]
theorem ref01_Is_s [Dfr] (x : Int) : ref01_Is x = some (signB x) := by
  rw [ref01_Is_eq]
  simp only [int_eq]
  by_cases h1 : x = 1
  · subst h1; rfl
  by_cases h2 : x = 2
  · subst h2; rfl
  by_cases h3 : x = 3
  · subst h3; rfl
  have : signB x = false := by
    cases h : signB x with
    | false => rfl
    | true => rcases signB_iff.1 h with h | h | h <;> contradiction
  rw [this]
  simp only [h1, h2, h3, decide_false, cond_false]
theorem ref01_Both_s [Dfr] (x y : Int) : ref01_Both x y = some (bs x y) := by
  rw [ref01_Both_eq]
  simp only [ref01_Is_s, Option.bind_some, int_eq, bs]
  cases hx : signB x <;> cases hy : signB y <;> simp
  rcases signB_iff.1 hx with rfl | rfl | rfl <;> rcases signB_iff.1 hy with rfl | rfl | rfl <;> rfl
end Go.Proofs.YtjogkjgpbeenfaaGreatDoor.Sv

/- What the functions of traces compute (package trace, redressref02): in plain words. -/
namespace Go.Proofs.YtjogkjgpbeenfaaGreatDoor.Sv
open Go Go.Sv Go.Rd
set_option linter.unusedVariables false
set_option linter.unusedSimpArgs false
theorem cmp_Compare__string_s [Dfr] (x y : ByteArray) : cmp_Compare__string x y = some (ordN (cmpB x y)) := by
  rw [cmp_Compare__string_eq, cmp_isNaN__string_eq, cmp_isNaN__string_eq]
  simp only [Option.bind_some, beq_self_eq_true, Bool.not_true, cond_false, strLess, str_eq]
  cases h : cmpB x y with
  | lt => simp [ordN]
  | eq =>
    have e := (ordB.eq x y).1 h
    simp [e, ordN]
  | gt =>
    have e : x ≠ y := fun e => by rw [e, ordB.rfl'] at h; cases h
    simp [e, ordN]
theorem ordN_then [Dfr] (a b : Ordering) : ordN (a.then b) = if ordN a = 0 then ordN b else ordN a := by cases a <;> rfl
theorem slices_Compare__string_l0s [Dfr] (xs ys : List ByteArray) (hx : xs.length ≤ 4611686018427387904) : ∀ (r s : List ByteArray) (i : Nat), xs.drop i = r → ys.drop i = s → i ≤ xs.length → i ≤ ys.length →
    ∃ e, slices_Compare__string_l0 xs ys 0 xs (xs.length : Int) (i : Int) = some e ∧ (bif Nat.beq e.1 0 then (bif (decide ((e.2.1.length : Int) < (e.2.2.1.length : Int))) then (some (-1)) else (some 0)) else (some e.2.2.2)) = some (ordN (cmpL cmpB r s))
  | [], s, i, h, k, hi, hj => by
    obtain ⟨h1, h2⟩ := drop_nil h
    refine ⟨(0, (xs, ys, 0)), ?_, ?_⟩
    · rw [slices_Compare__string_l0_eq]
      simp only [h2, cond_false]
    · have hk := congrArg List.length k
      rw [List.length_drop] at hk
      cases s with
      | nil =>
        rw [List.length_nil] at hk
        have e : decide ((xs.length : Int) < (ys.length : Int)) = false := decide_eq_false (by omega)
        simp only [e]
        rfl
      | cons y s =>
        rw [List.length_cons] at hk
        have e : decide ((xs.length : Int) < (ys.length : Int)) = true := decide_eq_true (by omega)
        simp only [e]
        rfl
  | x :: r, [], i, h, k, hi, hj => by
    obtain ⟨h1, h2, h3, h4, h5, h6⟩ := drop_cons h
    obtain ⟨k1, k2⟩ := drop_nil k
    refine ⟨(1, (xs, ys, 1)), ?_, rfl⟩
    rw [slices_Compare__string_l0_eq]
    simp only [h2, h3, cond_true, decide_eq_true (show (i : Int) ≥ (ys.length : Int) by omega)]
  | x :: r, y :: s, i, h, k, hi, hj => by
    obtain ⟨h1, h2, h3, h4, h5, h6⟩ := drop_cons h
    obtain ⟨k1, k2, k3, k4, k5, k6⟩ := drop_cons k
    obtain ⟨e, he, hr⟩ := slices_Compare__string_l0s xs ys hx r s (i + 1) h5 k5 (by omega) (by omega)
    rw [cmpL, ordN_then]
    by_cases hc : ordN (cmpB x y) = 0
    · refine ⟨e, ?_, by rw [if_pos hc]; exact hr⟩
      rw [slices_Compare__string_l0_eq]
      have e1 : (ordN (cmpB x y) != 0) = false := by simp [hc]
      simp only [h2, h3, h4, k3, k4, cond_true, decide_eq_false (show ¬ (i : Int) ≥ (ys.length : Int) by omega), cond_false, cmp_Compare__string_s, Option.bind_some, e1, w_succ (show i < 9223372036854775807 by omega), he]
    · refine ⟨(1, (xs, ys, ordN (cmpB x y))), ?_, by rw [if_neg hc]; rfl⟩
      rw [slices_Compare__string_l0_eq]
      have e1 : (ordN (cmpB x y) != 0) = true := by simpa using hc
      simp only [h2, h3, h4, k3, k4, cond_true, decide_eq_false (show ¬ (i : Int) ≥ (ys.length : Int) by omega), cond_false, cmp_Compare__string_s, Option.bind_some, e1]
theorem slices_Compare__string_s [Dfr] (xs ys : List ByteArray) (hx : xs.length ≤ 4611686018427387904) : slices_Compare__string xs ys = some (ordN (cmpA xs ys)) := by
  obtain ⟨e, he, hr⟩ := slices_Compare__string_l0s xs ys hx xs ys 0 rfl rfl (by omega) (by omega)
  rw [Int.natCast_zero] at he
  rw [slices_Compare__string_eq, he, Option.bind_some]
  exact hr
/-- What is asked of trace.Mix. -/
def mix_spec (a b : List ByteArray) : Option (List (List ByteArray)) := if a.length + b.length ≤ 1000000 ∧ (mixes [] a b).length ≤ 1000000 then some (mixS a b) else none
class HasMix [Dfr] : Prop where
  eq : ∀ a b, Dfr.d_trace_Mix a b = mix_spec a b
end Go.Proofs.YtjogkjgpbeenfaaGreatDoor.Sv
