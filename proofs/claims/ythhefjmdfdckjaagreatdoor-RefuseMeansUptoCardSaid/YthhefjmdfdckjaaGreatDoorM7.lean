/- Traces: what the documents says of them, in plain Lean; no program in sight. -/
import Derived.Test.YthhefjmdfdckjaaGreatDoorM6
namespace Go.Rd
open Go Go.Sv
set_option linter.unusedVariables false
set_option linter.unusedSimpArgs false

/-- One behind another one. -/
def thenT (p q : Tc) : Tc := if p.2 = 1 then (p.1 ++ q.1, q.2) else p

/-- All rows of two, behind what is done. -/
def mixes : List ByteArray → List ByteArray → List ByteArray → List (List ByteArray)
  | D, [], [] => [D]
  | D, x :: p, [] => mixes (D ++ [x]) p []
  | D, [], y :: q => mixes (D ++ [y]) [] q
  | D, x :: p, y :: q => mixes (D ++ [x]) p (y :: q) ++ mixes (D ++ [y]) (x :: p) q
termination_by _ p q => p.length + q.length

/-- A row put together of two. -/
inductive Mx {α : Type} : List α → List α → List α → Prop where
  | nil : Mx [] [] []
  | l {x : α} {p q r : List α} : Mx p q r → Mx (x :: p) q (x :: r)
  | r {y : α} {p q r : List α} : Mx p q r → Mx p (y :: q) (y :: r)

namespace Mx
variable {α : Type}
theorem right : ∀ (q : List α), Mx [] q q
  | [] => .nil
  | y :: q => .r (right q)

theorem left : ∀ (p : List α), Mx p [] p
  | [] => .nil
  | y :: q => .l (left q)

theorem nil_l {q r : List α} (h : Mx [] q r) : r = q := by
  generalize hp : ([] : List α) = p at h
  induction h with
  | nil => rfl
  | l _ _ => cases hp
  | r _ ih => rw [ih hp]

theorem nil_r {q r : List α} (h : Mx q [] r) : r = q := by
  generalize hp : ([] : List α) = p at h
  induction h with
  | nil => rfl
  | l _ ih => rw [ih hp]
  | r _ _ => cases hp

theorem symm {p q r : List α} (h : Mx p q r) : Mx q p r := by
  induction h with
  | nil => exact .nil
  | l _ ih => exact .r ih
  | r _ ih => exact .l ih

theorem len {p q r : List α} (h : Mx p q r) : r.length = p.length + q.length := by
  induction h with
  | nil => rfl
  | l _ ih => simp only [List.length_cons, ih]; omega
  | r _ ih => simp only [List.length_cons, ih]; omega

theorem sub {p q r : List α} (h : Mx p q r) : p.Sublist r := by
  induction h with
  | nil => exact .slnil
  | l _ ih => exact ih.cons_cons _
  | r _ ih => exact ih.cons _

theorem mem {p q r : List α} (h : Mx p q r) (x : α) : x ∈ r ↔ x ∈ p ∨ x ∈ q := by
  induction h with
  | nil => simp
  | l _ ih => simp only [List.mem_cons, ih, or_assoc]
  | r _ ih =>
    simp only [List.mem_cons, ih]
    constructor
    · rintro (h | h | h) <;> simp [h]
    · rintro (h | h | h) <;> simp [h]

theorem count [DecidableEq α] {p q r : List α} (h : Mx p q r) (x : α) : r.count x = p.count x + q.count x := by
  induction h with
  | nil => simp
  | l _ ih => simp only [List.count_cons, ih]; omega
  | r _ ih => simp only [List.count_cons, ih]; omega
end Mx

theorem mem_mixes : ∀ {D p q x : List ByteArray}, x ∈ mixes D p q ↔ ∃ r, x = D ++ r ∧ Mx p q r
  | D, [], [], x => by
    rw [mixes, List.mem_singleton]
    exact ⟨fun h => ⟨[], by simp [h], .nil⟩, fun ⟨r, h, hr⟩ => by rw [hr.nil_l] at h; simpa using h⟩
  | D, a :: p, [], x => by
    rw [mixes, mem_mixes]
    constructor
    · rintro ⟨r, rfl, hr⟩
      exact ⟨a :: r, by simp, .l hr⟩
    · rintro ⟨r, rfl, hr⟩
      rw [hr.nil_r]
      exact ⟨p, by simp, .left p⟩
  | D, [], b :: q, x => by
    rw [mixes, mem_mixes]
    constructor
    · rintro ⟨r, rfl, hr⟩
      exact ⟨b :: r, by simp, .r hr⟩
    · rintro ⟨r, rfl, hr⟩
      rw [hr.nil_l]
      exact ⟨q, by simp, .right q⟩
  | D, a :: p, b :: q, x => by
    rw [mixes, List.mem_append, mem_mixes, mem_mixes]
    constructor
    · rintro (⟨r, rfl, hr⟩ | ⟨r, rfl, hr⟩)
      · exact ⟨a :: r, by simp, .l hr⟩
      · exact ⟨b :: r, by simp, .r hr⟩
    · rintro ⟨r, rfl, hr⟩
      cases hr with
      | l hr => exact .inl ⟨_, by simp, hr⟩
      | r hr => exact .inr ⟨_, by simp, hr⟩
termination_by _ p q => p.length + q.length

/-- How many rows. -/
def chN : Nat → Nat → Nat
  | 0, _ => 1
  | _ + 1, 0 => 1
  | m + 1, n + 1 => chN m (n + 1) + chN (m + 1) n

theorem chN_zero (m : Nat) : chN m 0 = 1 := by cases m <;> rw [chN]

theorem length_mixes : ∀ (D p q : List ByteArray), (mixes D p q).length = chN p.length q.length
  | D, [], [] => by rw [mixes]; simp [chN]
  | D, x :: p, [] => by rw [mixes, length_mixes _ p []]; simp [chN_zero]
  | D, [], y :: q => by rw [mixes, length_mixes _ [] q]; simp [chN]
  | D, x :: p, y :: q => by rw [mixes, List.length_append, length_mixes, length_mixes]; simp [chN]
termination_by _ p q => p.length + q.length
theorem chN_le : ∀ (m n : Nat), chN m n ≤ 2 ^ (m + n)
  | 0, n => by rw [chN]; exact Nat.one_le_two_pow
  | m + 1, 0 => by rw [chN]; exact Nat.one_le_two_pow
  | m + 1, n + 1 => by
    have h1 := chN_le m (n + 1)
    have h2 := chN_le (m + 1) n
    rw [chN, show m + 1 + (n + 1) = (m + n + 1) + 1 by omega, Nat.pow_succ]
    rw [show m + (n + 1) = m + n + 1 by omega] at h1
    rw [show m + 1 + n = m + n + 1 by omega] at h2
    omega

theorem length_mixes_le {D p q : List ByteArray} {n : Nat} (h : p.length + q.length ≤ n) : (mixes D p q).length ≤ 2 ^ n := by
  rw [length_mixes]
  exact Nat.le_trans (chN_le _ _) (Nat.pow_le_pow_right (by omega) h)

/-- All rows of two, each once, rising. -/
def mixS (a b : List ByteArray) : List (List ByteArray) := canon cmpA (mixes [] a b)

theorem mem_mixS {a b x : List ByteArray} : x ∈ mixS a b ↔ Mx a b x := by
  unfold mixS
  rw [mem_canon ordA, mem_mixes]
  exact ⟨fun ⟨r, h, hr⟩ => by rw [h]; exact hr, fun h => ⟨x, rfl, h⟩⟩

theorem mixS_comm (a b : List ByteArray) : mixS a b = mixS b a := srt_ext ordA (srt_canon ordA _) (srt_canon ordA _) fun x => by rw [mem_mixS, mem_mixS]; exact ⟨.symm, .symm⟩

theorem length_mixS_le {a b : List ByteArray} {n : Nat} (h : a.length + b.length ≤ n) : (mixS a b).length ≤ 2 ^ n := Nat.le_trans (length_canon_le _) (length_mixes_le h)

/-- All traces of two, side by side; e is how both end. -/
def parE (e : Int) (p q : List ByteArray) : List Tc := (mixS p q).map fun l => (l, e)

theorem mem_parE {e : Int} {p q : List ByteArray} {x : Tc} : x ∈ parE e p q ↔ Mx p q x.1 ∧ x.2 = e := by
  unfold parE
  rw [List.mem_map]
  constructor
  · rintro ⟨l, h, rfl⟩
    exact ⟨mem_mixS.1 h, rfl⟩
  · rintro ⟨h, rfl⟩
    exact ⟨x.1, mem_mixS.2 h, rfl⟩

theorem srt_parE (e : Int) (p q : List ByteArray) : Srt cmpT (parE e p q) := by
  unfold parE Srt
  rw [List.pairwise_map]
  refine List.Pairwise.imp (fun {a b} h => ?_) (srt_canon ordA (mixes [] p q))
  show Ordering.then _ _ = _
  rw [then_lt]
  exact .inl h

/-- As the document puts two together. -/
def mixR : List ByteArray → List ByteArray → List (List ByteArray)
  | [], b => [b]
  | x :: a, [] => [x :: a]
  | x :: a, y :: b => (mixR a (y :: b)).map (x :: ·) ++ (mixR (x :: a) b).map (y :: ·)
termination_by a b => a.length + b.length
theorem mem_mixR : ∀ {a b x : List ByteArray}, x ∈ mixR a b ↔ Mx a b x
  | [], b, x => by rw [mixR, List.mem_singleton]; exact ⟨fun h => by rw [h]; exact .right b, fun h => h.nil_l⟩
  | y :: a, [], x => by rw [mixR, List.mem_singleton]; exact ⟨fun h => by rw [h]; exact .left _, fun h => h.nil_r⟩
  | u :: a, v :: b, x => by
    rw [mixR, List.mem_append, List.mem_map, List.mem_map]
    constructor
    · rintro (⟨r, h, rfl⟩ | ⟨r, h, rfl⟩)
      · exact .l (mem_mixR.1 h)
      · exact .r (mem_mixR.1 h)
    · intro h
      cases h with
      | l h => exact .inl ⟨_, mem_mixR.2 h, rfl⟩
      | r h => exact .inr ⟨_, mem_mixR.2 h, rfl⟩
termination_by a b => a.length + b.length
theorem length_mixR : ∀ (a b : List ByteArray), (mixR a b).length = chN a.length b.length
  | [], b => by rw [mixR]; simp [chN]
  | x :: a, [] => by rw [mixR]; simp [chN]
  | x :: a, y :: b => by rw [mixR, List.length_append, List.length_map, List.length_map, length_mixR, length_mixR]; simp [chN]
termination_by a b => a.length + b.length
theorem canon_mixR (e : Int) (a b : List ByteArray) : canon cmpT ((mixR a b).map fun l => (l, e)) = parE e a b :=
  srt_ext ordT (srt_canon ordT _) (srt_parE e a b) fun x => by
    rw [mem_canon ordT, mem_parE, List.mem_map]
    constructor
    · rintro ⟨l, h, rfl⟩; exact ⟨mem_mixR.1 h, rfl⟩
    · rintro ⟨h, rfl⟩; exact ⟨x.1, mem_mixR.2 h, rfl⟩

/-! ### two rising rows, made one -/
def mergeC {α : Type} (c : α → α → Ordering) : List α → List α → List α
  | [], b => b
  | x :: a, [] => x :: a
  | x :: a, y :: b => match c x y with
    | .lt => x :: mergeC c a (y :: b)
    | .eq => x :: mergeC c a b
    | .gt => y :: mergeC c (x :: a) b
termination_by a b => a.length + b.length
theorem mem_mergeC {α : Type} {c : α → α → Ordering} (h : Ord3 c) : ∀ {a b : List α} {z : α}, z ∈ mergeC c a b ↔ z ∈ a ∨ z ∈ b
  | [], b, z => by rw [mergeC]; simp
  | x :: a, [], z => by rw [mergeC]; simp
  | x :: a, y :: b, z => by
    rw [mergeC]
    split
    · rw [List.mem_cons, mem_mergeC h, List.mem_cons (l := a), or_assoc]
    · rename_i he
      rw [h.eq] at he
      subst he
      rw [List.mem_cons, mem_mergeC h]
      simp only [List.mem_cons]
      constructor
      · rintro (h | h | h) <;> simp [h]
      · rintro ((h | h) | h | h) <;> simp [h]
    · rw [List.mem_cons, mem_mergeC h]
      simp only [List.mem_cons]
      constructor
      · rintro (h | (h | h) | h) <;> simp [h]
      · rintro ((h | h) | h | h) <;> simp [h]
termination_by a b => a.length + b.length
theorem srt_mergeC {α : Type} {c : α → α → Ordering} (h : Ord3 c) : ∀ {a b : List α}, Srt c a → Srt c b → Srt c (mergeC c a b)
  | [], b, _, hb => by rw [mergeC]; exact hb
  | x :: a, [], ha, _ => by rw [mergeC]; exact ha
  | x :: a, y :: b, ha, hb => by
    obtain ⟨ha1, ha2⟩ := srt_cons.1 ha
    obtain ⟨hb1, hb2⟩ := srt_cons.1 hb
    rw [mergeC]
    split
    · rename_i he
      refine srt_cons.2 ⟨fun z hz => ?_, srt_mergeC h ha2 hb⟩
      rcases (mem_mergeC h).1 hz with hz | hz
      · exact ha1 z hz
      · rcases List.mem_cons.1 hz with rfl | hz
        · exact he
        · exact h.tr _ _ _ he (hb1 z hz)
    · rename_i he
      rw [h.eq] at he
      subst he
      refine srt_cons.2 ⟨fun z hz => ?_, srt_mergeC h ha2 hb2⟩
      rcases (mem_mergeC h).1 hz with hz | hz
      · exact ha1 z hz
      · exact hb1 z hz
    · rename_i he
      rw [h.gt] at he
      refine srt_cons.2 ⟨fun z hz => ?_, srt_mergeC h ha hb2⟩
      rcases (mem_mergeC h).1 hz with hz | hz
      · rcases List.mem_cons.1 hz with rfl | hz
        · exact he
        · exact h.tr _ _ _ he (ha1 z hz)
      · exact hb1 z hz
termination_by a b => a.length + b.length
theorem mergeC_canon {α : Type} {c : α → α → Ordering} (h : Ord3 c) (a b : List α) : mergeC c (canon c a) (canon c b) = canon c (a ++ b) :=
  srt_ext h (srt_mergeC h (srt_canon h a) (srt_canon h b)) (srt_canon h _) fun x => by rw [mem_mergeC h, mem_canon h, mem_canon h, mem_canon h, List.mem_append]

theorem length_mergeC_le {α : Type} {c : α → α → Ordering} : ∀ (a b : List α), (mergeC c a b).length ≤ a.length + b.length
  | [], b => by rw [mergeC]; simp
  | x :: a, [] => by rw [mergeC]; simp
  | x :: a, y :: b => by
    rw [mergeC]
    split
    · have := length_mergeC_le (c := c) a (y :: b); simp only [List.length_cons] at *; omega
    · have := length_mergeC_le (c := c) a b; simp only [List.length_cons] at *; omega
    · have := length_mergeC_le (c := c) (x :: a) b; simp only [List.length_cons] at *; omega
termination_by a b => a.length + b.length

theorem length_ins_new {α : Type} {c : α → α → Ordering} (h : Ord3 c) {x : α} : ∀ {l : List α}, x ∉ l → (ins c x l).length = l.length + 1
  | [], _ => rfl
  | y :: r, hx => by
    unfold ins
    split
    · rfl
    · rename_i he
      rw [h.eq] at he
      subst he
      exact absurd (List.mem_cons_self ..) hx
    · rw [List.length_cons, length_ins_new h (fun hm => hx (List.mem_cons_of_mem _ hm)), List.length_cons]

theorem length_canon_nodup {α : Type} {c : α → α → Ordering} (h : Ord3 c) : ∀ {l : List α}, l.Nodup → (canon c l).length = l.length
  | [], _ => rfl
  | x :: l, hn => by
    obtain ⟨h1, h2⟩ := List.nodup_cons.1 hn
    show (ins c x (canon c l)).length = _
    rw [length_ins_new h (fun hm => h1 ((mem_canon h).1 hm)), length_canon_nodup h h2, List.length_cons]

/-- Of actions that are all other ones, no row comes twice. -/
theorem nodup_mixes : ∀ {D p q : List ByteArray}, (∀ x ∈ p, x ∉ q) → (mixes D p q).Nodup
  | D, [], [], _ => by rw [mixes]; simp
  | D, x :: p, [], h => by rw [mixes]; exact nodup_mixes fun y hy => h y (List.mem_cons_of_mem _ hy)
  | D, [], y :: q, h => by rw [mixes]; exact nodup_mixes fun y hy => by cases hy
  | D, x :: p, y :: q, h => by
    rw [mixes, List.nodup_append]
    refine ⟨nodup_mixes fun z hz => h z (List.mem_cons_of_mem _ hz), nodup_mixes fun z hz hm => h z hz (List.mem_cons_of_mem _ hm), fun a ha b hb e => ?_⟩
    subst e
    obtain ⟨r, h1, _⟩ := mem_mixes.1 ha
    obtain ⟨r', h2, _⟩ := mem_mixes.1 hb
    rw [h1, List.append_assoc, List.append_assoc] at h2
    have h3 := List.append_cancel_left h2
    simp only [List.singleton_append, List.cons.injEq] at h3
    exact h x (List.mem_cons_self ..) (by rw [h3.1]; exact List.mem_cons_self ..)
termination_by _ p q => p.length + q.length

/-- Whether a row's elements come in another one, in their order: as one would look. -/
def inOrder : List ByteArray → List ByteArray → List ByteArray
  | a, [] => a
  | [], _ :: x => inOrder [] x
  | b :: a, y :: x => if b = y then inOrder a x else inOrder (b :: a) x

theorem inOrder_nil : ∀ x, inOrder [] x = []
  | [] => rfl
  | _ :: x => by rw [inOrder]; exact inOrder_nil x

theorem inOrder_sub : ∀ {a x : List ByteArray}, a.Sublist x → inOrder a x = []
  | [], x, _ => inOrder_nil x
  | b :: a, [], h => by cases h
  | b :: a, y :: x, h => by
    rw [inOrder]
    split
    · rename_i e
      subst e
      refine inOrder_sub ?_
      cases h with
      | cons _ h => exact (List.sublist_cons_self b a).trans h
      | cons_cons _ h => exact h
    · rename_i e
      cases h with
      | cons _ h => exact inOrder_sub h
      | cons_cons _ h => exact absurd rfl e
end Go.Rd
