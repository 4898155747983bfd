/- slices.Reverse in its place, at whole numbers. -/
import Derived.Test.YtgogodeknkoalaaGreatDoorEv7
import Derived.Shelf.SlicesE.Reverse
namespace Go.Sv
open Go Go.Sort Go.Proofs Go.Shelf Go.RowKit Go.Lib
set_option linter.unusedVariables false
set_option linter.unusedSimpArgs false
theorem revRuns_int {P : Program} {ρ : Ren} (L : SlLaysE.n35 P ρ) {e : TypeId} (hcall : Callable P (ρ.f 35)) : RevRun P (ρ.f 35) e (.int .i64) := by
  refine ⟨hcall, fun a cap w => AnyE.slices_Reverse_empty L a cap w, fun {F w xs g l v} hne hown hF => ?_⟩
  obtain ⟨hl, cap, cur, rfl, hh, hcap, hcm, hcs, hel⟩ := hown
  have hcs' : cur.size = cap := by simpa [Ty.sz] using hcs
  have hel' : ∀ (i : Nat) (x : Int), xs[i]? = some x → cur[i]? = some (.int .i64 x) := fun i x hx => by
    obtain ⟨ds, h1, h2⟩ := hel i x hx
    rw [Cl] at h1
    subst h1
    simpa [Ty.sz] using h2 0 _ rfl
  have hH : Holds (fun n : Int => Value.int .i64 n) w g 0 (List.toArray (α := Int) xs) := by
    intro j hj
    have hj' : j < xs.length := by simpa using hj
    refine ⟨?_, ?_⟩
    · have := hel' j xs[j] (List.getElem?_eq_getElem hj')
      simp only [World.cell?, hh, Nat.zero_add]
      rw [getElem!_pos (List.toArray (α := Int) xs) j hj]
      simpa using this
    · simp [World.frozen?, hh]
  refine (AnyE.slices_Reverse L (fun n : Int => Value.int .i64 n) (fun _ => rfl) g 0 cap xs w hH (by unfold maxLen at hcm; omega)).mono fun en w' ⟨he, n, hw⟩ => ?_
  have hw' : w' = sw w g n (putCells (fun n : Int => Value.int .i64 n) 0 (List.toArray (α := Int) xs.reverse)) #[] := by
    rw [hw]; unfold sw; rw [grow_empty]; rfl
  rw [hw']
  refine ⟨he, sw_kept .., by simp [hl], cap, _, by simp, sw_heap hh, by simpa using hcap, hcm, ?_, fun i x hx => ⟨[.int .i64 x], by rw [Cl], fun j u hj => ?_⟩⟩
  · simp [putCells, hcs]
  · have hj0 : j = 0 := by
      have := (List.getElem?_eq_some_iff.1 hj).1
      simpa using this
    subst hj0
    cases hj
    obtain ⟨hi, hx⟩ := List.getElem?_eq_some_iff.1 hx
    rw [List.length_reverse] at hi
    have hc : i < cur.size := by omega
    simp only [Ty.sz, Nat.mul_one, Nat.add_zero, putCells, Array.getElem?_mapIdx, Array.getElem?_eq_getElem hc, Option.map_some, Nat.zero_add, Nat.sub_zero, List.size_toArray, List.length_reverse]
    rw [if_pos ⟨Nat.zero_le _, hi⟩]
    have hi' : i < (List.toArray (α := Int) xs.reverse).size := by simpa using hi
    rw [getElem!_pos (List.toArray (α := Int) xs.reverse) i hi']
    simp only [List.getElem_toArray, hx]
end Go.Sv
/- A function that calls itself through the cell in which it lies, and adds to the row of a captured box. -/
namespace Go.Sv
open Go
set_option linter.unusedVariables false
set_option linter.unusedSimpArgs false
/-- Values of which nothing is the caller's own. -/
def PlainArgs : List SV → Prop := fun l => ∀ s ∈ l, ∃ e t xs, s = .one (.slice e t xs .no)
/-- What the row in the box is: nothing yet, or a row of the caller's own. -/
def BoxRow (F : Nat → Prop) (w : World) (e : TypeId) (u : Ty) (xs : List u.den) (bo : Nat) (so : Value) : Option (Nat × Nat) → Prop
  | none => xs = [] ∧ ∃ a, so = .slice a 0 0
  | some (go, l) => go ≠ bo ∧ OwnAt F w e u xs go l so
structure SelfOK (P : Program) (E : Env) (f : Nat) (tid e : TypeId) (u : Ty) (H : List SV → List u.den → Option (List u.den)) : Prop where
  call : Callable P f
  plain : ∀ args xs ys, H args xs = some ys → PlainArgs args
  runs : ∀ (args : List SV) (xs ys : List u.den), H args xs = some ys → ∀ (w : World) (F : Nat → Prop) (bo br : Nat) (so : Value) (vs : List Value) (own : Option (Nat × Nat)),
    (∀ b, F b → b < w.heap.size) → F bo → (∀ go l, own = some (go, l) → F go) → w.heap[bo]? = some (.cells #[so] tid (0, 0)) → BoxRow F w e u xs bo so own → ¬ F br → w.cell? ⟨br, 0, none⟩ = some (selfVal f bo br) → GlobOK E F w →
    All2 (RS F Fr.none w) args vs →
    Calls P f (vs ++ ([.pointer (some ⟨bo, 0, none⟩), .pointer (some ⟨br, 0, none⟩)] : List Value)).toArray w fun en w' => en = .returned (.tuple #[]) ∧ Kept (fun k => k = bo ∨ ∃ l, own = some (k, l)) w w' ∧
      ∃ so' own', w'.heap[bo]? = some (.cells #[so'] tid (0, 0)) ∧ BoxRow (fun b => (F b ∧ ∀ l, own ≠ some (b, l)) ∨ ∃ l, own' = some (b, l)) w' e u ys bo so' own' ∧
        ∀ go l, own' = some (go, l) → go < w'.heap.size ∧ ((∃ l0, own = some (go, l0)) ∨ w.heap.size ≤ go)
end Go.Sv
