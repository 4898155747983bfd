/- slices.SortFunc in its place, out of the shelf's contract. -/
import Derived.Test.YtgogodeknkoalaaGreatDoorEv6
import Derived.Shelf.SlSortCmp.NoneTotal
import Derived.Lib.SliceRun
namespace Go.Sv
open Go Go.Sort Go.Proofs
set_option linter.unusedVariables false
set_option linter.unusedSimpArgs false
/-- A world of the sort's. -/
def sw (w : World) (b m : Nat) (f : Array Value → Array Value) (os : Array Obj) : World := grow (mapBlock (Go.Sort.ahead w m) b f) os
theorem sw_heap {w : World} {b m : Nat} {f : Array Value → Array Value} {os : Array Obj} {cur : Array Value} {e : TypeId} (hh : w.heap[b]? = some (.cells cur e (0, 0))) : (sw w b m f os).heap[b]? = some (.cells (f cur) e (0, 0)) := by
  have hb : b < w.heap.size := (Array.getElem?_eq_some_iff.1 hh).1
  rw [sw, heap_grow_old _ _ (by simpa [mapBlock] using hb)]
  simp only [mapBlock, Go.Sort.ahead, Array.getElem?_modify, hh, if_true, Option.map_some, onCells]
theorem sw_other {w : World} {b m k : Nat} {f : Array Value → Array Value} {os : Array Obj} (hk : k ≠ b) (hlt : k < w.heap.size) : (sw w b m f os).heap[k]? = w.heap[k]? := by
  rw [sw, heap_grow_old _ _ (by simpa [mapBlock] using hlt)]
  simp only [mapBlock, Go.Sort.ahead, Array.getElem?_modify, if_neg (Ne.symm hk)]
theorem sw_size (w : World) (b m : Nat) (f : Array Value → Array Value) (os : Array Obj) : w.heap.size ≤ (sw w b m f os).heap.size := by simp [sw, grow, mapBlock, Go.Sort.ahead]
theorem sw_kept (w : World) (b m : Nat) (f : Array Value → Array Value) (os : Array Obj) : Kept (fun k => k = b) w (sw w b m f os) :=
  ⟨rfl, rfl, rfl, sw_size .., fun k hk hne => sw_other hne hk, Nat.le_add_right _ _⟩
theorem kept_grow {w w' : World} (h : Kept (fun _ => False) w w') : ∃ q os', w' = grow (w.drewN q) os' := by
  refine ⟨w'.drawn - w.drawn, w'.heap.extract w.heap.size w'.heap.size, ?_⟩
  have hheap : w'.heap = w.heap ++ w'.heap.extract w.heap.size w'.heap.size := by
    apply Array.ext_getElem?
    intro k
    rw [Array.getElem?_append]
    by_cases hk : k < w.heap.size
    · rw [if_pos hk]; exact h.block k hk fun h => h
    · rw [if_neg hk, Array.getElem?_extract]
      have := h.size
      by_cases hk2 : k < w'.heap.size
      · rw [if_pos (by omega)]; congr 1; omega
      · rw [if_neg (by omega), Array.getElem?_eq_none (by omega)]
  obtain ⟨h1, h2, h3, h4, h5, h6⟩ := h
  obtain ⟨hp, tp, dr, o, ou⟩ := w'
  simp only at h1 h2 h3 h4 h5 h6 hheap
  simp only [grow, World.drewN, h1, h2, h3, ← hheap]
  congr 1
  omega
section
variable {P : Program} {E : Env} {ρ : Go.Shelf.Ren}
end
end Go.Sv
/- What slices.CompactFunc keeps: plain laws. -/
namespace Go.Sv
open Go Go.Sort Go.Proofs
set_option linter.unusedVariables false
set_option linter.unusedSimpArgs false
/-! ### plain -/
section
variable {α : Type} (ef : α → α → Bool)
theorem compactGo_snoc : ∀ (l : List α) (q p x : α), (q :: l).getLast? = some p → compactGo ef q (l ++ [x]) = compactGo ef q l ++ (bif ef x p then [] else [x])
  | [], q, p, x, h => by
    simp only [List.getLast?_singleton, Option.some.injEq] at h
    subst h
    simp only [List.nil_append, compactGo]
    all_goals (cases ef x q <;> rfl)
  | y :: l, q, p, x, h => by
    rw [List.getLast?_cons_cons] at h
    have ih := compactGo_snoc l y p x h
    simp only [List.cons_append, compactGo, ih]
    cases ef y q <;> rfl
theorem compactT_snoc (l : List α) (p x : α) (h : l.getLast? = some p) : compactT ef (l ++ [x]) = compactT ef l ++ (bif ef x p then [] else [x]) := by
  cases l with
  | nil => cases h
  | cons q l => simp only [List.cons_append, compactT, compactGo_snoc ef l q p x h]
theorem compactT_take [Inhabited α] {d : Array α} {m : Nat} (h0 : 1 ≤ m) (hm : m < d.size) : compactT ef (d.toList.take (m + 1)) = compactT ef (d.toList.take m) ++ (bif ef d[m]! d[m - 1]! then [] else [d[m]!]) := by
  have e : d.toList.take (m + 1) = d.toList.take m ++ [d[m]!] := by
    rw [List.take_add_one, List.getElem?_eq_getElem (by simpa using hm), getElem!_pos d m hm]; simp
  rw [e]
  refine compactT_snoc ef _ _ _ ?_
  rw [List.getLast?_eq_getElem?, List.length_take, Array.length_toList, Nat.min_eq_left (Nat.le_of_lt hm), List.getElem?_take, if_pos (by omega), List.getElem?_eq_getElem (by simp; omega), getElem!_pos d (m - 1) (by omega)]
  simp
end
/-- What the inner loop has done: m elements are read, kk of them kept, and laid ahead. -/
structure CInv {α : Type} [Inhabited α] (ef : α → α → Bool) (enc : α → List Value) (k : Nat) (d : Array α) (m kk : Nat) (F : Array Value) : Prop where
  size : F.size = d.size * k
  len : kk = (compactT ef (d.toList.take m)).length
  lt : kk < m
  le : m ≤ d.size
  low : ∀ (i j : Nat) (x : α), (compactT ef (d.toList.take m))[i]? = some x → j < k → F[i * k + j]! = (enc x)[j]!
  high : ∀ i j, kk ≤ i → i < d.size → j < k → F[i * k + j]! = (enc d[i]!)[j]!
theorem row_lt {k i j n : Nat} (hi : i < n) (hj : j < k) : i * k + j < n * k := by
  have : (i + 1) * k ≤ n * k := Nat.mul_le_mul_right _ hi
  rw [Nat.add_mul] at this; omega
theorem CInv.drop {α : Type} [Inhabited α] {ef : α → α → Bool} {enc : α → List Value} {k : Nat} {d : Array α} {m kk : Nat} {F : Array Value} (h : CInv ef enc k d m kk F) (h0 : 1 ≤ m) (hm : m < d.size) (he : ef d[m]! d[m - 1]! = true) : CInv ef enc k d (m + 1) kk F := by
  have e : compactT ef (d.toList.take (m + 1)) = compactT ef (d.toList.take m) := by rw [compactT_take ef h0 hm, he]; simp
  exact ⟨h.size, by rw [e]; exact h.len, Nat.lt_succ_of_lt h.lt, hm, by rw [e]; exact h.low, h.high⟩
theorem CInv.keep {α : Type} [Inhabited α] {ef : α → α → Bool} {enc : α → List Value} {k : Nat} (hk : ∀ x, (enc x).length = k) {d : Array α} {m kk : Nat} {F : Array Value} (h : CInv ef enc k d m kk F) (h0 : 1 ≤ m) (hm : m < d.size) (he : ef d[m]! d[m - 1]! = false) :
    CInv ef enc k d (m + 1) (kk + 1) (setMany F (kk * k) (enc d[m]!)) := by
  have e : compactT ef (d.toList.take (m + 1)) = compactT ef (d.toList.take m) ++ [d[m]!] := by rw [compactT_take ef h0 hm, he]; rfl
  have hkk := h.lt
  have get : ∀ i j, i < d.size → j < k → (setMany F (kk * k) (enc d[m]!))[i * k + j]! = if i = kk then (enc d[m]!)[j]! else F[i * k + j]! := fun i j hi hj => by
    rw [get_setMany _ _ _ _ (by rw [h.size]; exact row_lt hi hj), hk]
    by_cases hik : i = kk
    · subst hik
      rw [if_pos ⟨by omega, by omega⟩, if_pos rfl]
      congr 1; omega
    · rw [if_neg hik, if_neg]
      rintro ⟨h1, h2⟩
      rcases Nat.lt_or_gt_of_ne hik with h3 | h3
      · have : (i + 1) * k ≤ kk * k := Nat.mul_le_mul_right _ h3
        rw [Nat.add_mul] at this; omega
      · have : (kk + 1) * k ≤ i * k := Nat.mul_le_mul_right _ h3
        rw [Nat.add_mul] at this; omega
  refine ⟨by rw [size_setMany]; exact h.size, by rw [e, List.length_append, ← h.len]; rfl, by omega, hm, fun i j x hx hj => ?_, fun i j h1 h2 hj => ?_⟩
  · rw [e] at hx
    have hi : i < kk + 1 := by have := (List.getElem?_eq_some_iff.1 hx).1; rw [List.length_append, ← h.len] at this; simpa using this
    rw [get i j (by have := h.le; omega) hj]
    by_cases hik : i = kk
    · rw [if_pos hik]
      rw [hik, h.len, List.getElem?_append_right (Nat.le_refl _)] at hx
      simp only [Nat.sub_self, List.getElem?_cons_zero, Option.some.injEq] at hx
      rw [hx]
    · rw [if_neg hik]
      rw [List.getElem?_append_left (by rw [← h.len]; omega)] at hx
      exact h.low i j x hx hj
  · rw [get i j h2 hj, if_neg (by omega)]
    exact h.high i j (by omega) h2 hj
end Go.Sv
/- slices.CompactFunc, walked once, at elements of k cells. -/
namespace Go.Sv
open Go Go.Sort Go.Proofs Go.Shelf Go.RowKit Go.Lib
set_option linter.unusedVariables false
set_option linter.unusedSimpArgs false
end Go.Sv
/- slices.CompactFunc in its place. -/
namespace Go.Sv
open Go Go.Sort Go.Proofs Go.Shelf Go.RowKit Go.Lib
set_option linter.unusedVariables false
set_option linter.unusedSimpArgs false
/-- What the walk asks of the seat's types. -/
structure CfTypes (P : Program) (T e B I FT U : TypeId) : Prop where
  mixed : P.follows .mixedOrders = true
  t0 : P.underlying U = some (TypeDesc.tuple #[])
  t3 : P.underlying I = some (TypeDesc.int IntKind.i64)
  t4 : P.underlying B = some TypeDesc.bool
  t22 : P.underlying T = some (TypeDesc.slice e)
  t25 : ∃ fas frs : Array TypeId, P.underlying FT = some (TypeDesc.func fas frs false)
  a0 : ∀ w, (isAgg U).run P w = .ok false w
  a3 : ∀ w, (isAgg I).run P w = .ok false w
  a4 : ∀ w, (isAgg B).run P w = .ok false w
  a22 : ∀ w, (isAgg T).run P w = .ok false w
  a25 : ∀ w, (isAgg FT).run P w = .ok false w
  z3 : ∀ w, (Go.sizeOf I).run P w = .ok 1 w
  z4 : ∀ w, (Go.sizeOf B).run P w = .ok 1 w
  z22 : ∀ w, (Go.sizeOf T).run P w = .ok 1 w
  z25 : ∀ w, (Go.sizeOf FT).run P w = .ok 1 w
section
variable {P : Program} {E : Env}
end
end Go.Sv
/- slices.CompactFunc, walked once, at elements of one cell. -/
namespace Go.Sv
open Go Go.Sort Go.Proofs Go.Shelf Go.RowKit Go.Lib
set_option linter.unusedVariables false
set_option linter.unusedSimpArgs false
end Go.Sv
/- slices.CompactFunc in its place, at elements of one cell. -/
namespace Go.Sv
open Go Go.Sort Go.Proofs Go.Shelf Go.RowKit Go.Lib
set_option linter.unusedVariables false
set_option linter.unusedSimpArgs false
section
variable {P : Program} {E : Env}
end
end Go.Sv
