/- What the reference's functions of layer 7 compute: in plain words. -/
import Derived.Test.YthhefjmdfdckjaaGreatDoorW07
namespace Go.Proofs.YthhefjmdfdckjaaGreatDoor.Sv
open Go Go.Sv Go.Rd
set_option linter.unusedVariables false
set_option linter.unusedSimpArgs false

theorem short_canonQ [Dfr] {l : List Qc} (h : shortQ l) : shortQ (canon cmpQ l) := fun x hx => h x ((mem_canon ordQ).1 hx)

/-- Two traces, by the kind of what they are of. -/
def twoF (k : Int) (p q : Tc) : List Tc := if k = 5 then [thenT p q] else if k = 7 then parE (bs p.2 q.2) p.1 q.1 else [handF p q]

/-- The pairs of one that has begun, as the reference lays them. -/
def goR (A B : List Tc) : List Qc := A.flatMap fun x => if x.2 ≠ 1 then [(x, ([], 1))] else B.map fun y => (x, y)

theorem mem_goR [Dfr] {A B : List Tc} (hB : ∃ y, y ∈ B) {z : Qc} : z ∈ goR A B ↔ z ∈ cross1 A B goF := by
  unfold goR
  rw [List.mem_flatMap, mem_cross1]
  obtain ⟨y0, hy0⟩ := hB
  constructor
  · rintro ⟨x, hx, hz⟩
    by_cases h1 : x.2 = 1
    · rw [if_neg (by simpa using h1)] at hz
      obtain ⟨y, hy, rfl⟩ := List.mem_map.1 hz
      exact ⟨x, hx, y, hy, by unfold goF; rw [if_pos h1]⟩
    · rw [if_pos h1] at hz
      exact ⟨x, hx, y0, hy0, by unfold goF; rw [if_neg h1]; exact List.mem_singleton.1 hz⟩
  · rintro ⟨x, hx, y, hy, rfl⟩
    refine ⟨x, hx, ?_⟩
    unfold goF
    by_cases h1 : x.2 = 1
    · rw [if_neg (by simpa using h1), if_pos h1]
      exact List.mem_map.2 ⟨y, hy, rfl⟩
    · rw [if_pos h1, if_neg h1]
      exact List.mem_singleton.2 rfl

theorem len_goR [Dfr] {A B : List Tc} (hB : ∃ y, y ∈ B) : (goR A B).length ≤ A.length * B.length := by
  obtain ⟨y0, hy0⟩ := hB
  have := List.length_pos_of_mem hy0
  refine len_flatMap fun a ha => ?_
  split
  · simp; omega
  · rw [List.length_map]; exact Nat.le_refl _

/-- The pairs of one row behind another one, as the reference lays them. -/
def seqR (A B : List Qc) : List Qc := A.flatMap fun a => if a.1.2 ≠ 1 then [a] else B.map fun b => (thenT a.1 b.1, thenT b.2 a.2)

theorem mem_seqR [Dfr] {A B : List Qc} (hB : ∃ y, y ∈ B) {z : Qc} : z ∈ seqR A B ↔ z ∈ cross1 A B seqF := by
  unfold seqR
  rw [List.mem_flatMap, mem_cross1]
  obtain ⟨y0, hy0⟩ := hB
  constructor
  · rintro ⟨x, hx, hz⟩
    by_cases h1 : x.1.2 = 1
    · rw [if_neg (by simpa using h1)] at hz
      obtain ⟨y, hy, rfl⟩ := List.mem_map.1 hz
      exact ⟨x, hx, y, hy, by unfold seqF; rw [if_pos h1]⟩
    · rw [if_pos h1] at hz
      exact ⟨x, hx, y0, hy0, by unfold seqF; rw [if_neg h1]; exact List.mem_singleton.1 hz⟩
  · rintro ⟨x, hx, y, hy, rfl⟩
    refine ⟨x, hx, ?_⟩
    unfold seqF
    by_cases h1 : x.1.2 = 1
    · rw [if_neg (by simpa using h1), if_pos h1]
      exact List.mem_map.2 ⟨y, hy, rfl⟩
    · rw [if_pos h1, if_neg h1]
      exact List.mem_singleton.2 rfl

theorem len_seqR [Dfr] {A B : List Qc} (hB : ∃ y, y ∈ B) : (seqR A B).length ≤ A.length * B.length := by
  obtain ⟨y0, hy0⟩ := hB
  have := List.length_pos_of_mem hy0
  refine len_flatMap fun a ha => ?_
  split
  · simp; omega
  · rw [List.length_map]; exact Nat.le_refl _
