/- move.ways, move.Text: their contracts. -/
import Derived.Test.YtgogodeknkoalaaGreatDoorX14
namespace Go.Proofs.YtgogodeknkoalaaGreatDoor.Sv
open Go Go.Sv Go.Proofs Go.Rd Go.RowKit Go.Shelf
set_option linter.unusedVariables false
set_option linter.unusedSimpArgs false
set_option maxRecDepth 100000
theorem set_push_lt [Dfr] {α : Type} (H : Array α) (x v : α) {i : Nat} (h : i < H.size) : (H.push x).setIfInBounds i v = (H.setIfInBounds i v).push x := by
  refine Array.ext_getElem? fun j => ?_
  simp only [Array.getElem?_setIfInBounds, Array.getElem?_push, Array.size_push, Array.size_setIfInBounds]
  repeat' split
  all_goals first | rfl | omega
theorem set_push_eq [Dfr] {α : Type} (H : Array α) (x v : α) {i : Nat} (h : i = H.size) : (H.push x).setIfInBounds i v = H.push v := by
  refine Array.ext_getElem? fun j => ?_
  simp only [Array.getElem?_setIfInBounds, Array.getElem?_push, Array.size_push]
  repeat' split
  all_goals first | rfl | omega
theorem setO_heap [Dfr] (w : World) (b : Nat) (o : Obj) : (setO w b o).heap = w.heap.setIfInBounds b o := rfl
theorem alloc_heap [Dfr] (w : World) (o : Obj) : (w.alloc o).heap = w.heap.push o := rfl
theorem setO_rest [Dfr] (w : World) (b : Nat) (o : Obj) : (setO w b o).os = w.os ∧ (setO w b o).tape = w.tape ∧ (setO w b o).output = w.output ∧ (setO w b o).drawn = w.drawn := ⟨rfl, rfl, rfl, rfl⟩
theorem alloc_rest [Dfr] (w : World) (o : Obj) : (w.alloc o).os = w.os ∧ (w.alloc o).tape = w.tape ∧ (w.alloc o).output = w.output ∧ (w.alloc o).drawn = w.drawn := ⟨rfl, rfl, rfl, rfl⟩
theorem endW_rest [Dfr] (w : World) (A M S1 M1 S2 M2 M3 M4 : Obj) : (endW w A M S1 M1 S2 M2 M3 M4).os = w.os ∧ (endW w A M S1 M1 S2 M2 M3 M4).tape = w.tape ∧ (endW w A M S1 M1 S2 M2 M3 M4).output = w.output ∧ (endW w A M S1 M1 S2 M2 M3 M4).drawn = w.drawn := by
  unfold endW
  simp only [setO_rest, alloc_rest, and_self]
theorem endW_heap [Dfr] (w : World) (A M S1 M1 S2 M2 M3 M4 : Obj) : (endW w A M S1 M1 S2 M2 M3 M4).heap = (((w.heap.push A).push M4).push S1).push S2 := by
  unfold endW
  simp only [setO_heap, alloc_heap]
  have e : w.heap.size + 1 = (w.heap.push A).size := by simp
  have l1 : ∀ M : Obj, w.heap.size + 1 < ((w.heap.push A).push M).size := fun M => by simp
  have l2 : ∀ M S : Obj, w.heap.size + 1 < (((w.heap.push A).push M).push S).size := fun M S => by simp
  rw [set_push_lt _ _ _ (l1 _), set_push_eq _ _ _ e, set_push_lt _ _ _ (l2 _ _), set_push_lt _ _ _ (l1 _), set_push_eq _ _ _ e, set_push_lt _ _ _ (l2 _ _), set_push_lt _ _ _ (l1 _), set_push_eq _ _ _ e, set_push_lt _ _ _ (l2 _ _), set_push_lt _ _ _ (l1 _), set_push_eq _ _ _ e]
theorem four [Dfr] (H : Array Obj) (a b c d : Obj) {K : Array Obj} (hK : K = (((H.push a).push b).push c).push d) :
    K[H.size]? = some a ∧ K[H.size + 1]? = some b ∧ K[H.size + 1 + 1]? = some c ∧ K[H.size + 1 + 1 + 1]? = some d ∧ (∀ k, k < H.size → K[k]? = H[k]?) ∧ K.size = H.size + 4 := by
  subst hK
  refine ⟨?_, ?_, ?_, ?_, fun k hk => ?_, by simp⟩
  · rw [Array.getElem?_push, if_neg (by simp; omega), Array.getElem?_push, if_neg (by simp; omega), Array.getElem?_push, if_neg (by simp), Array.getElem?_push, if_pos rfl]
  · rw [Array.getElem?_push, if_neg (by simp), Array.getElem?_push, if_neg (by simp), Array.getElem?_push, if_pos (by simp)]
  · rw [Array.getElem?_push, if_neg (by simp), Array.getElem?_push, if_pos (by simp)]
  · rw [Array.getElem?_push, if_pos (by simp)]
  · rw [Array.getElem?_push, if_neg (by simp; omega), Array.getElem?_push, if_neg (by simp; omega), Array.getElem?_push, if_neg (by simp; omega), Array.getElem?_push, if_neg (by omega)]
/-- A row of ways in memory. -/
theorem cl_ways [Dfr] {F : Nat → Prop} {w : World} {e tid b : Nat} {xs : List (Int × Nat)} {cur : Array Value} (hh : w.heap[b]? = some (.cells cur tid (0, 0))) (hF : ¬ F b)
    (hc : ∀ i x, xs[i]? = some x → cur[i * 2]? = some (.int .i64 x.1) ∧ cur[i * 2 + 1]? = some (.func (.func x.2) #[] #[])) : Cl F w (.slice e (.pair (.int .i64) .fn)) xs [.slice (some ⟨b, 0, none⟩) xs.length xs.length] := by
  rw [Cl]
  refine ⟨some ⟨b, 0, none⟩, xs.length, rfl, Nat.le_refl _, .inr ⟨⟨b, 0, none⟩, rfl, hF, fun i x hi => ?_⟩⟩
  obtain ⟨h1, h2⟩ := hc i x hi
  refine ⟨[.int .i64 x.1, .func (.func x.2) #[] #[]], ?_, fun j v hj => ?_⟩
  · rw [Cl]
    exact ⟨[_], [_], rfl, by rw [Cl], by rw [Cl]⟩
  · rw [add_off, cell_of_block hh, Nat.zero_add]
    match j, hj with
    | 0, hj => cases hj; exact h1
    | 1, hj => cases hj; exact h2
theorem ways_contract [Dfr] : Contract Tryz.prog E 22 () tabW := by
  intro w F0 G A vs hA
  obtain rfl : vs = [] := by
    have h := hA.rel
    cases h
    rfl
  refine (ways_walk w).mono ?_
  rintro e w' ⟨rfl, rfl⟩
  generalize hW : endW w (give w) (.map #[] 0) one1 (.map #[en1 w] 1) two6 (.map #[en1 w, en6 w] 2) (.map #[en1 w, en6 w, en4 w] 3) (.map #[en1 w, en6 w, en4 w, en10 w] 4) = W
  have hheap : W.heap = (((w.heap.push (give w)).push (.map #[en1 w, en6 w, en4 w, en10 w] 4)).push one1).push two6 := by rw [← hW]; exact endW_heap ..
  obtain ⟨b0, b1, b2, b3, bk, bs⟩ := four _ _ _ _ _ hheap
  obtain ⟨r1, r2, r3, r4⟩ := endW_rest w (give w) (.map #[] 0) one1 (.map #[en1 w] 1) two6 (.map #[en1 w, en6 w] 2) (.map #[en1 w, en6 w, en4 w] 3) (.map #[en1 w, en6 w, en4 w, en10 w] 4)
  rw [hW] at r1 r2 r3 r4
  have hk : Kept G w W := ⟨r1, r2, r3, by rw [bs]; omega, fun k hk _ => bk k hk, by rw [r4]; exact Nat.le_refl _⟩
  refine ⟨_, rfl, hk, fun d => ⟨⟨fun _ => none, fun _ => none⟩, ?_, fun _ => rfl, fun n b l h => (by cases h), fun n n' b l l' h => (by cases h)⟩⟩
  have hF : ∀ b, w.heap.size ≤ b → ¬ (Fr.F ⟨fun _ => none, fun _ => none⟩ F0) b := fun b hb h => by
    rcases h with h | ⟨d, h⟩ | ⟨n, l, h⟩
    · have := (hA.f0 b h).1; omega
    · cases h
    · cases h
  have g4 : Cl (Fr.F ⟨fun _ => none, fun _ => none⟩ F0) W (.slice 47 (.pair (.int .i64) .fn)) [(4, move_always_id), (5, doom_Free_id)] [.slice (some ⟨w.heap.size, 0, none⟩) 2 2] :=
    cl_ways b0 (hF _ (Nat.le_refl _)) fun i x h => by
      match i, h with
      | 0, h => cases h; exact ⟨rfl, rfl⟩
      | 1, h => cases h; exact ⟨rfl, rfl⟩
  have g1 : Cl (Fr.F ⟨fun _ => none, fun _ => none⟩ F0) W (.slice 47 (.pair (.int .i64) .fn)) [(1, move_always_id)] [.slice (some ⟨w.heap.size + 1 + 1, 0, none⟩) 1 1] :=
    cl_ways b2 (hF _ (by omega)) fun i x h => by
      match i, h with
      | 0, h => cases h; exact ⟨rfl, rfl⟩
  have g6 : Cl (Fr.F ⟨fun _ => none, fun _ => none⟩ F0) W (.slice 47 (.pair (.int .i64) .fn)) [(2, move_always_id), (3, move_always_id)] [.slice (some ⟨w.heap.size + 1 + 1 + 1, 0, none⟩) 2 2] :=
    cl_ways b3 (hF _ (by omega)) fun i x h => by
      match i, h with
      | 0, h => cases h; exact ⟨rfl, rfl⟩
      | 1, h => cases h; exact ⟨rfl, rfl⟩
  exact .inr ⟨rfl, w.heap.size + 1, _, 4, rfl, hF _ (by omega), b1, .cons ⟨rfl, g1⟩ (.cons ⟨rfl, g6⟩ (.cons ⟨rfl, g4⟩ (.cons ⟨rfl, g4⟩ .nil)))⟩
end Go.Proofs.YtgogodeknkoalaaGreatDoor.Sv
