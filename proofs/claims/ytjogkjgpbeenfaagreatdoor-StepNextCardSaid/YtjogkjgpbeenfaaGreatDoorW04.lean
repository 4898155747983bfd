/- What the functions of sorts compute (package sort, redressref04): in plain words. -/
import Derived.Test.YtjogkjgpbeenfaaGreatDoorW03r
import Derived.Test.YtjogkjgpbeenfaaGreatDoorM3
namespace Go.Proofs.YtjogkjgpbeenfaaGreatDoor.Sv
open Go Go.Sv Go.Rd
set_option linter.unusedVariables false
set_option linter.unusedSimpArgs false
theorem kids0 [Dfr] (m : Tm) {n : Nd} (h : m.t = .n0 n) (hs : m.size ≤ 100000) : row_Kids m.row = some [] := by
  rw [row_Kids_s _ (by rw [Tm.len_row]; omega), kidsR_tm, h]
  rfl
theorem kids1 [Dfr] (m : Tm) {n : Nd} {a : Tm} (h : m.t = .n1 n a.t) (hs : m.size ≤ 100000) : row_Kids m.row = some [a.row] := by
  rw [row_Kids_s _ (by rw [Tm.len_row]; omega), kidsR_tm, h]
  rfl
theorem kids2 [Dfr] (m : Tm) {n : Nd} {a b : Tm} (h : m.t = .n2 n a.t b.t) (hs : m.size ≤ 100000) : row_Kids m.row = some [a.row, b.row] := by
  rw [row_Kids_s _ (by rw [Tm.len_row]; omega), kidsR_tm, h]
  rfl
theorem rkids0 [Dfr] (m : Tm) {n : Nd} (h : m.t = .n0 n) (hs : m.size ≤ 100000) : ref03_Kids m.row = some [] := by
  rw [ref03_Kids_s _ (by rw [Tm.len_row]; omega), kidsR_tm, h]
  rfl
theorem rkids1 [Dfr] (m : Tm) {n : Nd} {a : Tm} (h : m.t = .n1 n a.t) (hs : m.size ≤ 100000) : ref03_Kids m.row = some [a.row] := by
  rw [ref03_Kids_s _ (by rw [Tm.len_row]; omega), kidsR_tm, h]
  rfl
theorem rkids2 [Dfr] (m : Tm) {n : Nd} {a b : Tm} (h : m.t = .n2 n a.t b.t) (hs : m.size ≤ 100000) : ref03_Kids m.row = some [a.row, b.row] := by
  rw [ref03_Kids_s _ (by rw [Tm.len_row]; omega), kidsR_tm, h]
  rfl
theorem sort_on_s [Dfr] (x : Int) : sort_on x = some (on x) := by
  rw [sort_on_eq]
  by_cases h1 : x = 1; · subst h1; rfl
  by_cases h2 : x = 2; · subst h2; rfl
  simp only [beq_false_of_ne h1, beq_false_of_ne h2, cond_false, on, h1, h2, or_self, if_false]
theorem sort_both_s [Dfr] (x y : Int) : sort_both x y = some (both x y) := by
  rw [sort_both_eq]
  simp only [sort_on_s, Option.bind_some, both]
  by_cases h : on x = on y
  · have : (on x != on y) = false := by simp [h]
    rw [this, if_pos h]; rfl
  · have : (on x != on y) = true := by simp [h]
    rw [this, if_neg h]; rfl
theorem sort_behind_s [Dfr] (x y z : Int) : sort_behind x y z = some (behind x y z) := by
  rw [sort_behind_eq]
  simp only [sort_on_s, Option.bind_some, behind]
  by_cases h : y = z
  · have : (y != z) = false := by simp [h]
    rw [this, if_pos h, cond_false]
    by_cases h' : on x = on z
    · have : (on x != on z) = false := by simp [h']
      rw [this, if_pos h']; rfl
    · have : (on x != on z) = true := by simp [h']
      rw [this, if_neg h']; rfl
  · have : (y != z) = true := by simp [h]
    rw [this, if_neg h]; rfl
theorem sort_l0_2 [Dfr] (l a b : List Nd) {x y : Int} (ha : sort_sort a = some x) (hb : sort_sort b = some y) : sort_sort_l0 l 0 [] [a, b] (([a, b] : List (List Nd)).length : Int) 0 = some (if x = 0 then (1, (l, 0, [])) else if y = 0 then (1, (l, 0, [x])) else (0, (l, 0, [x, y]))) := by
  rw [sort_sort_l0_eq]
  simp only [show decide ((0 : Int) < (([a, b] : List (List Nd)).length : Int)) = true from rfl, show idxOk 0 ([a, b] : List (List Nd)).length = true from rfl, cond_true, show ix [a, b] 0 = a from rfl, ha, Option.bind_some]
  by_cases h : x = 0
  · simp [h]
  · simp only [beq_false_of_ne h, cond_false, if_neg h, room (show (([] : List Int).length + 1) * 8 ≤ 140737488355328 by decide), cond_true, List.nil_append]
    rw [sort_sort_l0_eq]
    simp only [show decide (w64 (0 + 1) < (([a, b] : List (List Nd)).length : Int)) = true from rfl, show idxOk (w64 (0 + 1)) ([a, b] : List (List Nd)).length = true from rfl, cond_true, show ix [a, b] (w64 (0 + 1)) = b from rfl, hb, Option.bind_some]
    by_cases h' : y = 0
    · simp [h']
    · simp only [beq_false_of_ne h', cond_false, if_neg h', room (show (([x] : List Int).length + 1) * 8 ≤ 140737488355328 by simp), cond_true]
      rw [sort_sort_l0_eq]
      rfl
theorem sort_l0_1 [Dfr] (l a : List Nd) {x : Int} (ha : sort_sort a = some x) : sort_sort_l0 l 0 [] [a] (([a] : List (List Nd)).length : Int) 0 = some (if x = 0 then (1, (l, 0, [])) else (0, (l, 0, [x]))) := by
  rw [sort_sort_l0_eq]
  simp only [show decide ((0 : Int) < (([a] : List (List Nd)).length : Int)) = true from rfl, show idxOk 0 ([a] : List (List Nd)).length = true from rfl, cond_true, show ix [a] 0 = a from rfl, ha, Option.bind_some]
  by_cases h : x = 0
  · simp [h]
  · simp only [beq_false_of_ne h, cond_false, if_neg h, room (show (([] : List Int).length + 1) * 8 ≤ 140737488355328 by decide), cond_true, List.nil_append]
    rw [sort_sort_l0_eq]
    rfl
theorem sort_l0_0 [Dfr] (l : List Nd) : sort_sort_l0 l 0 [] [] (([] : List (List Nd)).length : Int) 0 = some (0, (l, 0, [])) := by
  rw [sort_sort_l0_eq]
  rfl
/-- A tree of two, whose kids' sorts are told. -/
theorem sort_two [Dfr] {m a b : Tm} {k x y : Int} (hk : k = 5 ∨ k = 6 ∨ k = 7 ∨ k = 8 ∨ k = 10 ∨ k = 12 ∨ k = 13) (h : m.t = .n2 (nd k) a.t b.t) (hs : m.size ≤ 100000) (ha : sort_sort a.row = some x) (hb : sort_sort b.row = some y) : sort_sort m.row = some (so2 k x y) := by
  rw [sort_sort_eq, kids2 m h hs]
  simp only [Option.bind_some, sort_l0_2 m.row a.row b.row ha hb]
  by_cases h0 : x = 0
  · simp [h0, so2, Nat.beq]
  by_cases h1 : y = 0
  · simp [h0, h1, so2, Nat.beq]
  have hrow : m.row = nd k :: (a.row ++ b.row) := by unfold Tm.row; rw [h]; rfl
  have hid : idxOk 0 m.row.length = true := by rw [hrow]; exact idxOk_zero (by simp)
  have hix : (ix m.row 0).1 = k := by rw [hrow]; rfl
  simp only [if_neg h0, if_neg h1, Nat.beq_refl, cond_true, hid, hix, sort_both_s, sort_behind_s, sort_on_s, show idxOk 0 ([x, y] : List Int).length = true from rfl, show idxOk 1 ([x, y] : List Int).length = true from rfl, show ix [x, y] 0 = x from rfl, show ix [x, y] 1 = y from rfl, Option.bind_some, int_eq]
  unfold so2
  rw [if_neg h0, if_neg h1]
  rcases hk with rfl | rfl | rfl | rfl | rfl | rfl | rfl
  · rfl
  · by_cases c1 : x > 2 <;> by_cases c2 : y > 2 <;> simp [c1, c2]
  · rfl
  · rfl
  · by_cases c1 : x = 1 <;> by_cases c2 : y = 1 <;> simp [c1, c2]
  · by_cases c1 : on x = 3 <;> by_cases c2 : y = 1 <;> simp [c1, c2]
  · by_cases c1 : on x = 4 <;> by_cases c2 : y = 1 <;> simp [c1, c2]
theorem sort_one9 [Dfr] {a : Tm} {x : Int} (hs : (Tm.block a).size ≤ 100000) (hx : 0 ≤ x ∧ x ≤ 4) (ha : sort_sort a.row = some x) : sort_sort (Tm.block a).row = some (so1 9 x) := by
  rw [sort_sort_eq, kids1 (.block a) rfl hs]
  simp only [Option.bind_some, sort_l0_1 (Tm.block a).row a.row ha]
  by_cases h0 : x = 0
  · simp [h0, so1, Nat.beq]
  have hid : idxOk 0 (Tm.block a).row.length = true := by rw [Tm.row_block]; exact idxOk_zero (by simp)
  have hix : (ix (Tm.block a).row 0).1 = 9 := rfl
  simp only [if_neg h0, Nat.beq_refl, cond_true, hid, hix, sort_on_s, show idxOk 0 ([x] : List Int).length = true from rfl, show ix [x] 0 = x from rfl, Option.bind_some, int_eq]
  unfold so1
  rw [if_neg h0]
  rw [w64_id (by omega) (by omega)]
  by_cases c1 : on x = 4 <;> simp [c1]
theorem sort_one14 [Dfr] {a : Tm} {s x : Int} (hs : (Tm.fin s a).size ≤ 100000) (ha : sort_sort a.row = some x) : sort_sort (Tm.fin s a).row = some (so1 14 x) := by
  rw [sort_sort_eq, kids1 (.fin s a) rfl hs]
  simp only [Option.bind_some, sort_l0_1 (Tm.fin s a).row a.row ha]
  by_cases h0 : x = 0
  · simp [h0, so1, Nat.beq]
  have hid : idxOk 0 (Tm.fin s a).row.length = true := by rw [Tm.row_fin]; exact idxOk_zero (by simp)
  have hix : (ix (Tm.fin s a).row 0).1 = 14 := rfl
  simp only [if_neg h0, Nat.beq_refl, cond_true, hid, hix, sort_on_s, show idxOk 0 ([x] : List Int).length = true from rfl, show ix [x] 0 = x from rfl, Option.bind_some, int_eq]
  unfold so1
  rw [if_neg h0]
  by_cases c1 : x = 1 <;> simp [c1]
theorem sort_zero [Dfr] {m : Tm} {n : Nd} (h : m.t = .n0 n) (hk : n.1 = 1 ∨ n.1 = 2 ∨ n.1 = 3 ∨ n.1 = 4 ∨ n.1 = 11) : sort_sort m.row = some (if n.1 = 11 then 3 else 1) := by
  have hs : m.size ≤ 100000 := by unfold Tm.size; rw [h]; simp [T.size]
  have hrow : m.row = [n] := by unfold Tm.row; rw [h]; rfl
  rw [sort_sort_eq, kids0 m h hs]
  simp only [Option.bind_some, sort_l0_0, Nat.beq_refl, cond_true]
  rw [hrow]
  simp only [show idxOk 0 ([n] : List Nd).length = true from rfl, show ix [n] 0 = n from rfl, cond_true]
  rcases hk with e | e | e | e | e <;> rw [e] <;> rfl
theorem sort_sort_s [Dfr] (m : Tm) (hs : m.size ≤ 100000) : sort_sort m.row = some m.so := by
  induction m with
  | act s => rw [sort_zero (m := .act s) rfl (.inl rfl)]; rfl
  | skip => rw [sort_zero (m := .skip) rfl (.inr (.inl rfl))]; rfl
  | throw => rw [sort_zero (m := .throw) rfl (.inr (.inr (.inl rfl)))]; rfl
  | yield => rw [sort_zero (m := .yield) rfl (.inr (.inr (.inr (.inl rfl))))]; rfl
  | over s => rw [sort_zero (m := .over s) rfl (.inr (.inr (.inr (.inr rfl))))]; rfl
  | block a ih => rw [sort_one9 hs a.so_range (ih (by rw [Tm.size_block] at hs; omega)), Tm.so_block]
  | fin s a ih => rw [sort_one14 hs (ih (by rw [Tm.size_fin] at hs; omega)), Tm.so_fin]
  | seq a b iha ihb => rw [sort_two (m := .seq a b) (by simp) rfl hs (iha (by rw [Tm.size_seq] at hs; omega)) (ihb (by rw [Tm.size_seq] at hs; omega)), Tm.so_seq]
  | alt a b iha ihb => rw [sort_two (m := .alt a b) (by simp) rfl hs (iha (by rw [Tm.size_alt] at hs; omega)) (ihb (by rw [Tm.size_alt] at hs; omega)), Tm.so_alt]
  | par a b iha ihb => rw [sort_two (m := .par a b) (by simp) rfl hs (iha (by rw [Tm.size_par] at hs; omega)) (ihb (by rw [Tm.size_par] at hs; omega)), Tm.so_par]
  | hand a b iha ihb => rw [sort_two (m := .hand a b) (by simp) rfl hs (iha (by rw [Tm.size_hand] at hs; omega)) (ihb (by rw [Tm.size_hand] at hs; omega)), Tm.so_hand]
  | pair a b iha ihb => rw [sort_two (m := .pair a b) (by simp) rfl hs (iha (by rw [Tm.size_pair] at hs; omega)) (ihb (by rw [Tm.size_pair] at hs; omega)), Tm.so_pair]
  | going a b iha ihb => rw [sort_two (m := .going a b) (by simp) rfl hs (iha (by rw [Tm.size_going] at hs; omega)) (ihb (by rw [Tm.size_going] at hs; omega)), Tm.so_going]
  | stack a b iha ihb => rw [sort_two (m := .stack a b) (by simp) rfl hs (iha (by rw [Tm.size_stack] at hs; omega)) (ihb (by rw [Tm.size_stack] at hs; omega)), Tm.so_stack]
theorem sort_Of_s [Dfr] (l : List Nd) (hl : l.length ≤ 4611686018427387904) : sort_Of l = some (sOf l) := by
  rw [sort_Of_eq, row_Whole_s l hl, whole_tmOf]
  unfold sOf
  simp only [Option.bind_some]
  cases h : tmOf l with
  | none => rfl
  | some m =>
    obtain ⟨rfl, h2, h3⟩ := tmOf_some.1 h
    simp only [Option.isSome_some, Bool.not_true, cond_false, sort_sort_s m (by omega), Option.bind_some]
theorem sort_On_s [Dfr] (l : List Nd) (b : Bool) (hl : l.length ≤ 4611686018427387904) : sort_On l b = some (decide (on (sOf l) = if b then 4 else 3)) := by
  rw [sort_On_eq]
  cases b <;> simp only [sort_Of_s l hl, sort_on_s, Option.bind_some, cond_true, cond_false, int_eq, if_true, if_false] <;> rfl
/-! ### the document's -/
theorem is_eq [Dfr] (l : List Nd) (ks : List (List Nd)) (h : ref03_Kids l = some ks) {p q po qo : Bool} (h1 : ref04_plain l ks = some p) (h2 : ref04_paired l ks = some q) (h3 : ref04_plainOn l ks = some po) (h4 : ref04_pairedOn l ks = some qo) :
    ref04_Is l 1 = some p ∧ ref04_Is l 2 = some q ∧ ref04_Is l 3 = some (p || po) ∧ ref04_Is l 4 = some (q || qo) := by
  refine ⟨?_, ?_, ?_, ?_⟩ <;> rw [ref04_Is_eq, h] <;> simp only [Option.bind_some, h1, h2, h3, h4]
  · rfl
  · rfl
  · cases p <;> rfl
  · cases q <;> rfl
/-- What the document's test tells of a tree. -/
def IsS [Dfr] (m : Tm) : Prop := ref04_Is m.row 1 = some m.pl ∧ ref04_Is m.row 2 = some m.pa ∧ ref04_Is m.row 3 = some m.po ∧ ref04_Is m.row 4 = some m.qo
theorem is_zero [Dfr] {m : Tm} {n : Nd} (h : m.t = .n0 n) {p po : Bool} (hp : m.pl = p) (hpo : m.po = (p || po)) (hpa : m.pa = false) (hqo : m.qo = false) (h1 : ref04_plain [n] [] = some p) (h2 : ref04_paired [n] [] = some false) (h3 : ref04_plainOn [n] [] = some po) (h4 : ref04_pairedOn [n] [] = some false) : IsS m := by
  have hs : m.size ≤ 100000 := by unfold Tm.size; rw [h]; simp [T.size]
  have hrow : m.row = [n] := by unfold Tm.row; rw [h]; rfl
  unfold IsS
  have hk := rkids0 m h hs
  rw [hrow] at hk ⊢
  have := is_eq [n] [] hk h1 h2 h3 h4
  rw [hp, hpo, hpa, hqo]
  exact this
theorem is_one9 [Dfr] {a : Tm} (hs : (Tm.block a).size ≤ 100000) (ha : IsS a) : IsS (.block a) := by
  obtain ⟨a1, a2, a3, a4⟩ := ha
  have hid : idxOk 0 (Tm.block a).row.length = true := by rw [Tm.row_block]; exact idxOk_zero (by simp)
  have hix : (ix (Tm.block a).row 0).1 = 9 := rfl
  have := is_eq (Tm.block a).row [a.row] (rkids1 (.block a) rfl hs) (p := a.pa) (q := false) (po := a.qo) (qo := false)
    (by rw [ref04_plain_eq]; simp only [hid, hix, cond_true, show ix [a.row] 0 = a.row from rfl, show idxOk 0 [a.row].length = true from rfl, a2, Option.bind_some]; rfl)
    (by rw [ref04_paired_eq]; simp only [hid, hix, cond_true]; rfl)
    (by rw [ref04_plainOn_eq]; simp only [hid, hix, cond_true, show ix [a.row] 0 = a.row from rfl, show idxOk 0 [a.row].length = true from rfl, a4, Option.bind_some]; rfl)
    (by rw [ref04_pairedOn_eq]; simp only [hid, hix, cond_true]; rfl)
  refine ⟨this.1, this.2.1, this.2.2.1.trans ?_, this.2.2.2⟩
  have hq := @Tm.qo_of_pa a
  show _ = some a.qo
  cases h1 : a.pa with
  | true => rw [hq h1]; rfl
  | false => rfl
theorem is_one14 [Dfr] {a : Tm} {s : Int} (hs : (Tm.fin s a).size ≤ 100000) (ha : IsS a) : IsS (.fin s a) := by
  obtain ⟨a1, a2, a3, a4⟩ := ha
  have hid : idxOk 0 (Tm.fin s a).row.length = true := by rw [Tm.row_fin]; exact idxOk_zero (by simp)
  have hix : (ix (Tm.fin s a).row 0).1 = 14 := rfl
  have := is_eq (Tm.fin s a).row [a.row] (rkids1 (.fin s a) rfl hs) (p := false) (q := false) (po := false) (qo := a.pl)
    (by rw [ref04_plain_eq]; simp only [hid, hix, cond_true]; rfl)
    (by rw [ref04_paired_eq]; simp only [hid, hix, cond_true]; rfl)
    (by rw [ref04_plainOn_eq]; simp only [hid, hix, cond_true]; rfl)
    (by rw [ref04_pairedOn_eq]; simp only [hid, hix, cond_true, show ix [a.row] 0 = a.row from rfl, show idxOk 0 [a.row].length = true from rfl, a1, Option.bind_some]; rfl)
  exact this
theorem is_two [Dfr] {m a b : Tm} {k : Int} (hk : k = 5 ∨ k = 6 ∨ k = 7 ∨ k = 8 ∨ k = 10 ∨ k = 12 ∨ k = 13) (h : m.t = .n2 (nd k) a.t b.t) (hs : m.size ≤ 100000) (ha : IsS a) (hb : IsS b) : IsS m := by
  obtain ⟨a1, a2, a3, a4⟩ := ha
  obtain ⟨b1, b2, b3, b4⟩ := hb
  have hrow : m.row = nd k :: (a.row ++ b.row) := by unfold Tm.row; rw [h]; rfl
  have hid : idxOk 0 m.row.length = true := by rw [hrow]; exact idxOk_zero (by simp)
  have hix : (ix m.row 0).1 = k := by rw [hrow]; rfl
  have i0 : ix [a.row, b.row] 0 = a.row := rfl
  have i1 : ix [a.row, b.row] 1 = b.row := rfl
  have j0 : idxOk 0 [a.row, b.row].length = true := rfl
  have j1 : idxOk 1 [a.row, b.row].length = true := rfl
  have g1 : ref04_plain m.row [a.row, b.row] = some (decide (k = 5 ∨ k = 6 ∨ k = 7 ∨ k = 8) && (a.pl && b.pl)) := by
    rw [ref04_plain_eq]
    simp only [hid, hix, i0, i1, j0, j1, cond_true, a1, b1, Option.bind_some]
    rcases hk with rfl | rfl | rfl | rfl | rfl | rfl | rfl <;> first | (cases a.pl <;> cases b.pl <;> rfl) | rfl
  have g2 : ref04_paired m.row [a.row, b.row] = some (if k = 10 then a.pl && b.pl else decide (k = 5 ∨ k = 6 ∨ k = 7) && (a.pa && b.pa)) := by
    rw [ref04_paired_eq]
    simp only [hid, hix, i0, i1, j0, j1, cond_true, a1, b1, a2, b2, Option.bind_some]
    rcases hk with rfl | rfl | rfl | rfl | rfl | rfl | rfl <;> first | (cases a.pa <;> cases b.pa <;> rfl) | (cases a.pl <;> cases b.pl <;> rfl) | rfl
  have g3 : ref04_plainOn m.row [a.row, b.row] = some (if k = 7 then a.po && b.po else decide (k = 5 ∨ k = 8) && (a.po && b.pl)) := by
    rw [ref04_plainOn_eq]
    simp only [hid, hix, i0, i1, j0, j1, cond_true, a3, b1, b3, Option.bind_some]
    rcases hk with rfl | rfl | rfl | rfl | rfl | rfl | rfl <;> first | (cases a.po <;> cases b.pl <;> rfl) | (cases a.po <;> cases b.po <;> rfl) | rfl
  have g4 : ref04_pairedOn m.row [a.row, b.row] = some (if k = 12 then a.po && b.pl else if k = 5 then a.qo && b.pa else if k = 7 then a.qo && b.qo else decide (k = 13) && (a.qo && b.pl)) := by
    rw [ref04_pairedOn_eq]
    simp only [hid, hix, i0, i1, j0, j1, cond_true, a3, b1, a4, b2, b4, Option.bind_some]
    rcases hk with rfl | rfl | rfl | rfl | rfl | rfl | rfl <;> first | (cases a.po <;> cases b.pl <;> rfl) | (cases a.qo <;> cases b.pl <;> rfl) | (cases a.qo <;> cases b.qo <;> rfl) | (cases a.qo <;> cases b.pa <;> rfl) | rfl
  have := is_eq m.row [a.row, b.row] (rkids2 m h hs) g1 g2 g3 g4
  have hm : m = (if k = 5 then .seq a b else if k = 6 then .alt a b else if k = 7 then .par a b else if k = 8 then .hand a b else if k = 10 then .pair a b else if k = 12 then .going a b else .stack a b) := by
    apply Tm.t_inj
    rw [h]
    rcases hk with rfl | rfl | rfl | rfl | rfl | rfl | rfl <;> rfl
  have pa1 := @Tm.po_of_pl a
  have pa2 := @Tm.qo_of_pa a
  have pb1 := @Tm.po_of_pl b
  have pb2 := @Tm.qo_of_pa b
  unfold IsS
  rw [this.1, this.2.1, this.2.2.1, this.2.2.2, hm]
  rcases hk with rfl | rfl | rfl | rfl | rfl | rfl | rfl
  · refine ⟨rfl, rfl, ?_, ?_⟩
    · show some ((a.pl && b.pl) || (a.po && b.pl)) = some (a.po && b.pl)
      cases h1 : a.pl <;> cases h2 : b.pl <;> simp_all
    · show some ((a.pa && b.pa) || (a.qo && b.pa)) = some (a.qo && b.pa)
      cases h1 : a.pa <;> cases h2 : b.pa <;> simp_all
  · refine ⟨rfl, rfl, ?_, ?_⟩
    · show some ((a.pl && b.pl) || false) = some (a.pl && b.pl)
      rw [Bool.or_false]
    · show some ((a.pa && b.pa) || false) = some (a.pa && b.pa)
      rw [Bool.or_false]
  · refine ⟨rfl, rfl, ?_, ?_⟩
    · show some ((a.pl && b.pl) || (a.po && b.po)) = some (a.po && b.po)
      cases h1 : a.pl <;> cases h2 : b.pl <;> simp_all
    · show some ((a.pa && b.pa) || (a.qo && b.qo)) = some (a.qo && b.qo)
      cases h1 : a.pa <;> cases h2 : b.pa <;> simp_all
  · refine ⟨rfl, rfl, ?_, rfl⟩
    show some ((a.pl && b.pl) || (a.po && b.pl)) = some (a.po && b.pl)
    cases h1 : a.pl <;> cases h2 : b.pl <;> simp_all
  · refine ⟨rfl, rfl, rfl, ?_⟩
    show some ((a.pl && b.pl) || false) = some (a.pl && b.pl)
    rw [Bool.or_false]
  · exact ⟨rfl, rfl, rfl, rfl⟩
  · exact ⟨rfl, rfl, rfl, rfl⟩
theorem is_s [Dfr] (m : Tm) (hs : m.size ≤ 100000) : IsS m := by
  induction m with
  | act s => exact is_zero (m := .act s) rfl (p := true) (po := false) rfl rfl rfl rfl (by rw [ref04_plain_eq]; rfl) (by rw [ref04_paired_eq]; rfl) (by rw [ref04_plainOn_eq]; rfl) (by rw [ref04_pairedOn_eq]; rfl)
  | skip => exact is_zero (m := .skip) rfl (p := true) (po := false) rfl rfl rfl rfl (by rw [ref04_plain_eq]; rfl) (by rw [ref04_paired_eq]; rfl) (by rw [ref04_plainOn_eq]; rfl) (by rw [ref04_pairedOn_eq]; rfl)
  | throw => exact is_zero (m := .throw) rfl (p := true) (po := false) rfl rfl rfl rfl (by rw [ref04_plain_eq]; rfl) (by rw [ref04_paired_eq]; rfl) (by rw [ref04_plainOn_eq]; rfl) (by rw [ref04_pairedOn_eq]; rfl)
  | yield => exact is_zero (m := .yield) rfl (p := true) (po := false) rfl rfl rfl rfl (by rw [ref04_plain_eq]; rfl) (by rw [ref04_paired_eq]; rfl) (by rw [ref04_plainOn_eq]; rfl) (by rw [ref04_pairedOn_eq]; rfl)
  | over s => exact is_zero (m := .over s) rfl (p := false) (po := true) rfl rfl rfl rfl (by rw [ref04_plain_eq]; rfl) (by rw [ref04_paired_eq]; rfl) (by rw [ref04_plainOn_eq]; rfl) (by rw [ref04_pairedOn_eq]; rfl)
  | block a ih => exact is_one9 hs (ih (by rw [Tm.size_block] at hs; omega))
  | fin s a ih => exact is_one14 hs (ih (by rw [Tm.size_fin] at hs; omega))
  | seq a b iha ihb => exact is_two (m := .seq a b) (k := 5) (by simp) rfl hs (iha (by rw [Tm.size_seq] at hs; omega)) (ihb (by rw [Tm.size_seq] at hs; omega))
  | alt a b iha ihb => exact is_two (m := .alt a b) (k := 6) (by simp) rfl hs (iha (by rw [Tm.size_alt] at hs; omega)) (ihb (by rw [Tm.size_alt] at hs; omega))
  | par a b iha ihb => exact is_two (m := .par a b) (k := 7) (by simp) rfl hs (iha (by rw [Tm.size_par] at hs; omega)) (ihb (by rw [Tm.size_par] at hs; omega))
  | hand a b iha ihb => exact is_two (m := .hand a b) (k := 8) (by simp) rfl hs (iha (by rw [Tm.size_hand] at hs; omega)) (ihb (by rw [Tm.size_hand] at hs; omega))
  | pair a b iha ihb => exact is_two (m := .pair a b) (k := 10) (by simp) rfl hs (iha (by rw [Tm.size_pair] at hs; omega)) (ihb (by rw [Tm.size_pair] at hs; omega))
  | going a b iha ihb => exact is_two (m := .going a b) (k := 12) (by simp) rfl hs (iha (by rw [Tm.size_going] at hs; omega)) (ihb (by rw [Tm.size_going] at hs; omega))
  | stack a b iha ihb => exact is_two (m := .stack a b) (k := 13) (by simp) rfl hs (iha (by rw [Tm.size_stack] at hs; omega)) (ihb (by rw [Tm.size_stack] at hs; omega))
theorem ref04_Of_s [Dfr] (l : List Nd) (hl : l.length ≤ 4611686018427387904) (hn : ∀ n ∈ l, n.2.1.size ≤ 9223372036854775807) : ref04_Of l = some (sOf l) := by
  rw [ref04_Of_eq, ref03_Whole_s l hl hn, whole_tmOf]
  unfold sOf
  simp only [Option.bind_some]
  cases h : tmOf l with
  | none => rfl
  | some m =>
    obtain ⟨rfl, h2, h3⟩ := tmOf_some.1 h
    obtain ⟨k1, k2, k3, k4⟩ := is_s m (by omega)
    simp only [Option.isSome_some, Bool.not_true, cond_false]
    rw [ref04_Of_l0_eq]
    simp only [show decide ((1 : Int) ≤ 4) = true from rfl, cond_true, k1, Option.bind_some]
    rcases Tm.cls m with ⟨e, e1, e2, e3, e4⟩ | ⟨e, e1, e2, e3, e4⟩ | ⟨e, e1, e2, e3, e4⟩ | ⟨e, e1, e2, e3, e4⟩ | ⟨e, e1, e2, e3, e4⟩
    · rw [e1, e]; rfl
    all_goals
      rw [e1, cond_false, show w64 (1 + 1) = 2 from rfl, ref04_Of_l0_eq]
      simp only [show decide ((2 : Int) ≤ 4) = true from rfl, cond_true, k2, Option.bind_some]
    · rw [e2, e]; rfl
    all_goals
      rw [e2, cond_false, show w64 (2 + 1) = 3 from rfl, ref04_Of_l0_eq]
      simp only [show decide ((3 : Int) ≤ 4) = true from rfl, cond_true, k3, Option.bind_some]
    · rw [e3, e]; rfl
    all_goals
      rw [e3, cond_false, show w64 (3 + 1) = 4 from rfl, ref04_Of_l0_eq]
      simp only [show decide ((4 : Int) ≤ 4) = true from rfl, cond_true, k4, Option.bind_some]
    · rw [e4, e]; rfl
    · rw [e4, cond_false, show w64 (4 + 1) = 5 from rfl, ref04_Of_l0_eq, e]; rfl
end Go.Proofs.YtjogkjgpbeenfaaGreatDoor.Sv
