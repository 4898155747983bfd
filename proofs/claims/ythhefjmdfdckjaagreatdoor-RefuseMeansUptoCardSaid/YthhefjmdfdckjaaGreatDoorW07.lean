/- What the functions of package mean compute: in plain words. -/
import Derived.Test.YthhefjmdfdckjaaGreatDoorM9
import Derived.Test.YthhefjmdfdckjaaGreatDoorW02
import Derived.Test.YthhefjmdfdckjaaGreatDoorW04
namespace Go.Proofs.YthhefjmdfdckjaaGreatDoor.Sv
open Go Go.Sv Go.Rd
set_option linter.unusedVariables false
set_option linter.unusedSimpArgs false

/-! ### something of each of one row and each of another one -/
theorem mean_cross__trace_Trace_trace_Trace_trace_Trace_l2s [Dfr] (B : List Tc) (fv : FnV) (g : Tc → Tc → List Tc) (a : Tc) (A : List Tc) (n i : Int) (hB : B.length ≤ 1000000000)
    (hg : ∀ b ∈ B, dyn E fv [.agg [.slice 9 .str a.1 .no, .int .i64 a.2], .agg [.slice 9 .str b.1 .no, .int .i64 b.2]] (.slice 49 (.pair (.slice 9 .str) (.int .i64))) = some (g a b)) : ∀ (r : List Tc) (j : Nat) (acc : List Tc), B.drop j = r → acc.length + (r.flatMap (g a)).length ≤ 1000000000 →
    mean_cross__trace_Trace_trace_Trace_trace_Trace_l2 B fv acc a A n i B (B.length : Int) (j : Int) = some (0, (B, fv, acc ++ r.flatMap (g a), A, n, i))
  | [], j, acc, h, hl => by
    obtain ⟨h1, h2⟩ := drop_nil h
    rw [mean_cross__trace_Trace_trace_Trace_trace_Trace_l2_eq]
    simp only [h2, cond_false, List.flatMap_nil, List.append_nil]
  | b :: r, j, acc, h, hl => by
    obtain ⟨h1, h2, h3, h4, h5, h6⟩ := drop_cons h
    have hm : b ∈ B := List.mem_of_mem_drop (by rw [h]; exact List.mem_cons_self ..)
    simp only [List.flatMap_cons, List.length_append] at hl
    rw [mean_cross__trace_Trace_trace_Trace_trace_Trace_l2_eq]
    simp only [h2, h3, h4, cond_true, hg b hm, Option.bind_some, room (show (acc.length + (g a b).length) * 32 ≤ 140737488355328 by omega), w_succ (show j < 9223372036854775807 by omega)]
    rw [mean_cross__trace_Trace_trace_Trace_trace_Trace_l2s B fv g a A n i hB hg r (j + 1) (acc ++ g a b) h5 (by rw [List.length_append]; omega)]
    simp only [List.flatMap_cons, List.append_assoc]

theorem mean_cross__trace_Trace_trace_Trace_trace_Trace_l0s [Dfr] (B : List Tc) (fv : FnV) (g : Tc → Tc → List Tc) (A : List Tc) (hA : A.length ≤ 1000000000) (hB : B.length ≤ 1000000000)
    (hg : ∀ a ∈ A, ∀ b ∈ B, dyn E fv [.agg [.slice 9 .str a.1 .no, .int .i64 a.2], .agg [.slice 9 .str b.1 .no, .int .i64 b.2]] (.slice 49 (.pair (.slice 9 .str) (.int .i64))) = some (g a b)) : ∀ (r : List Tc) (i : Nat) (acc : List Tc), A.drop i = r → acc.length + (crossL r B g).length ≤ 1000000000 →
    mean_cross__trace_Trace_trace_Trace_trace_Trace_l0 B fv acc A (A.length : Int) (i : Int) = some (0, acc ++ crossL r B g)
  | [], i, acc, h, hl => by
    obtain ⟨h1, h2⟩ := drop_nil h
    rw [mean_cross__trace_Trace_trace_Trace_trace_Trace_l0_eq]
    simp only [h2, cond_false, crossL, List.flatMap_nil, List.append_nil]
  | a :: r, i, acc, h, hl => by
    obtain ⟨h1, h2, h3, h4, h5, h6⟩ := drop_cons h
    have hm : a ∈ A := List.mem_of_mem_drop (by rw [h]; exact List.mem_cons_self ..)
    have hc : crossL (a :: r) B g = B.flatMap (g a) ++ crossL r B g := rfl
    rw [hc, List.length_append] at hl
    have e := mean_cross__trace_Trace_trace_Trace_trace_Trace_l2s B fv g a A (A.length : Int) (i : Int) hB (hg a hm) B 0 acc rfl (by omega)
    rw [Int.natCast_zero] at e
    rw [mean_cross__trace_Trace_trace_Trace_trace_Trace_l0_eq]
    simp only [h2, h3, h4, cond_true, e, Option.bind_some, w_succ (show i < 9223372036854775807 by omega)]
    rw [mean_cross__trace_Trace_trace_Trace_trace_Trace_l0s B fv g A hA hB hg r (i + 1) (acc ++ B.flatMap (g a)) h5 (by rw [List.length_append]; omega), hc, List.append_assoc]

theorem mean_cross__trace_Trace_trace_Trace_trace_Trace_s [Dfr] (A : List Tc) (B : List Tc) (fv : FnV) (g : Tc → Tc → List Tc) (hA : A.length ≤ 1000000000) (hB : B.length ≤ 1000000000) (hl : (crossL A B g).length ≤ 1000000000)
    (hg : ∀ a ∈ A, ∀ b ∈ B, dyn E fv [.agg [.slice 9 .str a.1 .no, .int .i64 a.2], .agg [.slice 9 .str b.1 .no, .int .i64 b.2]] (.slice 49 (.pair (.slice 9 .str) (.int .i64))) = some (g a b)) : mean_cross__trace_Trace_trace_Trace_trace_Trace A B fv = some (crossL A B g) := by
  have e := mean_cross__trace_Trace_trace_Trace_trace_Trace_l0s B fv g A hA hB hg A 0 [] rfl (by simpa using hl)
  rw [Int.natCast_zero] at e
  rw [mean_cross__trace_Trace_trace_Trace_trace_Trace_eq, e]
  rfl

theorem mean_cross__trace_Trace_trace_Trace_mean_Pair_l2s [Dfr] (B : List Tc) (fv : FnV) (g : Tc → Tc → List Qc) (a : Tc) (A : List Tc) (n i : Int) (hB : B.length ≤ 1000000000)
    (hg : ∀ b ∈ B, dyn E fv [.agg [.slice 9 .str a.1 .no, .int .i64 a.2], .agg [.slice 9 .str b.1 .no, .int .i64 b.2]] (.slice 70 (.pair (.pair (.slice 9 .str) (.int .i64)) (.pair (.slice 9 .str) (.int .i64)))) = some (g a b)) : ∀ (r : List Tc) (j : Nat) (acc : List Qc), B.drop j = r → acc.length + (r.flatMap (g a)).length ≤ 1000000000 →
    mean_cross__trace_Trace_trace_Trace_mean_Pair_l2 B fv acc a A n i B (B.length : Int) (j : Int) = some (0, (B, fv, acc ++ r.flatMap (g a), A, n, i))
  | [], j, acc, h, hl => by
    obtain ⟨h1, h2⟩ := drop_nil h
    rw [mean_cross__trace_Trace_trace_Trace_mean_Pair_l2_eq]
    simp only [h2, cond_false, List.flatMap_nil, List.append_nil]
  | b :: r, j, acc, h, hl => by
    obtain ⟨h1, h2, h3, h4, h5, h6⟩ := drop_cons h
    have hm : b ∈ B := List.mem_of_mem_drop (by rw [h]; exact List.mem_cons_self ..)
    simp only [List.flatMap_cons, List.length_append] at hl
    rw [mean_cross__trace_Trace_trace_Trace_mean_Pair_l2_eq]
    simp only [h2, h3, h4, cond_true, hg b hm, Option.bind_some, room (show (acc.length + (g a b).length) * 64 ≤ 140737488355328 by omega), w_succ (show j < 9223372036854775807 by omega)]
    rw [mean_cross__trace_Trace_trace_Trace_mean_Pair_l2s B fv g a A n i hB hg r (j + 1) (acc ++ g a b) h5 (by rw [List.length_append]; omega)]
    simp only [List.flatMap_cons, List.append_assoc]

theorem mean_cross__trace_Trace_trace_Trace_mean_Pair_l0s [Dfr] (B : List Tc) (fv : FnV) (g : Tc → Tc → List Qc) (A : List Tc) (hA : A.length ≤ 1000000000) (hB : B.length ≤ 1000000000)
    (hg : ∀ a ∈ A, ∀ b ∈ B, dyn E fv [.agg [.slice 9 .str a.1 .no, .int .i64 a.2], .agg [.slice 9 .str b.1 .no, .int .i64 b.2]] (.slice 70 (.pair (.pair (.slice 9 .str) (.int .i64)) (.pair (.slice 9 .str) (.int .i64)))) = some (g a b)) : ∀ (r : List Tc) (i : Nat) (acc : List Qc), A.drop i = r → acc.length + (crossL r B g).length ≤ 1000000000 →
    mean_cross__trace_Trace_trace_Trace_mean_Pair_l0 B fv acc A (A.length : Int) (i : Int) = some (0, acc ++ crossL r B g)
  | [], i, acc, h, hl => by
    obtain ⟨h1, h2⟩ := drop_nil h
    rw [mean_cross__trace_Trace_trace_Trace_mean_Pair_l0_eq]
    simp only [h2, cond_false, crossL, List.flatMap_nil, List.append_nil]
  | a :: r, i, acc, h, hl => by
    obtain ⟨h1, h2, h3, h4, h5, h6⟩ := drop_cons h
    have hm : a ∈ A := List.mem_of_mem_drop (by rw [h]; exact List.mem_cons_self ..)
    have hc : crossL (a :: r) B g = B.flatMap (g a) ++ crossL r B g := rfl
    rw [hc, List.length_append] at hl
    have e := mean_cross__trace_Trace_trace_Trace_mean_Pair_l2s B fv g a A (A.length : Int) (i : Int) hB (hg a hm) B 0 acc rfl (by omega)
    rw [Int.natCast_zero] at e
    rw [mean_cross__trace_Trace_trace_Trace_mean_Pair_l0_eq]
    simp only [h2, h3, h4, cond_true, e, Option.bind_some, w_succ (show i < 9223372036854775807 by omega)]
    rw [mean_cross__trace_Trace_trace_Trace_mean_Pair_l0s B fv g A hA hB hg r (i + 1) (acc ++ B.flatMap (g a)) h5 (by rw [List.length_append]; omega), hc, List.append_assoc]

theorem mean_cross__trace_Trace_trace_Trace_mean_Pair_s [Dfr] (A : List Tc) (B : List Tc) (fv : FnV) (g : Tc → Tc → List Qc) (hA : A.length ≤ 1000000000) (hB : B.length ≤ 1000000000) (hl : (crossL A B g).length ≤ 1000000000)
    (hg : ∀ a ∈ A, ∀ b ∈ B, dyn E fv [.agg [.slice 9 .str a.1 .no, .int .i64 a.2], .agg [.slice 9 .str b.1 .no, .int .i64 b.2]] (.slice 70 (.pair (.pair (.slice 9 .str) (.int .i64)) (.pair (.slice 9 .str) (.int .i64)))) = some (g a b)) : mean_cross__trace_Trace_trace_Trace_mean_Pair A B fv = some (crossL A B g) := by
  have e := mean_cross__trace_Trace_trace_Trace_mean_Pair_l0s B fv g A hA hB hg A 0 [] rfl (by simpa using hl)
  rw [Int.natCast_zero] at e
  rw [mean_cross__trace_Trace_trace_Trace_mean_Pair_eq, e]
  rfl

theorem mean_cross__mean_Pair_mean_Pair_mean_Pair_l2s [Dfr] (B : List Qc) (fv : FnV) (g : Qc → Qc → List Qc) (a : Qc) (A : List Qc) (n i : Int) (hB : B.length ≤ 1000000000)
    (hg : ∀ b ∈ B, dyn E fv [.agg [.slice 9 .str a.1.1 .no, .int .i64 a.1.2, .slice 9 .str a.2.1 .no, .int .i64 a.2.2], .agg [.slice 9 .str b.1.1 .no, .int .i64 b.1.2, .slice 9 .str b.2.1 .no, .int .i64 b.2.2]] (.slice 70 (.pair (.pair (.slice 9 .str) (.int .i64)) (.pair (.slice 9 .str) (.int .i64)))) = some (g a b)) : ∀ (r : List Qc) (j : Nat) (acc : List Qc), B.drop j = r → acc.length + (r.flatMap (g a)).length ≤ 1000000000 →
    mean_cross__mean_Pair_mean_Pair_mean_Pair_l2 B fv acc a A n i B (B.length : Int) (j : Int) = some (0, (B, fv, acc ++ r.flatMap (g a), A, n, i))
  | [], j, acc, h, hl => by
    obtain ⟨h1, h2⟩ := drop_nil h
    rw [mean_cross__mean_Pair_mean_Pair_mean_Pair_l2_eq]
    simp only [h2, cond_false, List.flatMap_nil, List.append_nil]
  | b :: r, j, acc, h, hl => by
    obtain ⟨h1, h2, h3, h4, h5, h6⟩ := drop_cons h
    have hm : b ∈ B := List.mem_of_mem_drop (by rw [h]; exact List.mem_cons_self ..)
    simp only [List.flatMap_cons, List.length_append] at hl
    rw [mean_cross__mean_Pair_mean_Pair_mean_Pair_l2_eq]
    simp only [h2, h3, h4, cond_true, hg b hm, Option.bind_some, room (show (acc.length + (g a b).length) * 64 ≤ 140737488355328 by omega), w_succ (show j < 9223372036854775807 by omega)]
    rw [mean_cross__mean_Pair_mean_Pair_mean_Pair_l2s B fv g a A n i hB hg r (j + 1) (acc ++ g a b) h5 (by rw [List.length_append]; omega)]
    simp only [List.flatMap_cons, List.append_assoc]

theorem mean_cross__mean_Pair_mean_Pair_mean_Pair_l0s [Dfr] (B : List Qc) (fv : FnV) (g : Qc → Qc → List Qc) (A : List Qc) (hA : A.length ≤ 1000000000) (hB : B.length ≤ 1000000000)
    (hg : ∀ a ∈ A, ∀ b ∈ B, dyn E fv [.agg [.slice 9 .str a.1.1 .no, .int .i64 a.1.2, .slice 9 .str a.2.1 .no, .int .i64 a.2.2], .agg [.slice 9 .str b.1.1 .no, .int .i64 b.1.2, .slice 9 .str b.2.1 .no, .int .i64 b.2.2]] (.slice 70 (.pair (.pair (.slice 9 .str) (.int .i64)) (.pair (.slice 9 .str) (.int .i64)))) = some (g a b)) : ∀ (r : List Qc) (i : Nat) (acc : List Qc), A.drop i = r → acc.length + (crossL r B g).length ≤ 1000000000 →
    mean_cross__mean_Pair_mean_Pair_mean_Pair_l0 B fv acc A (A.length : Int) (i : Int) = some (0, acc ++ crossL r B g)
  | [], i, acc, h, hl => by
    obtain ⟨h1, h2⟩ := drop_nil h
    rw [mean_cross__mean_Pair_mean_Pair_mean_Pair_l0_eq]
    simp only [h2, cond_false, crossL, List.flatMap_nil, List.append_nil]
  | a :: r, i, acc, h, hl => by
    obtain ⟨h1, h2, h3, h4, h5, h6⟩ := drop_cons h
    have hm : a ∈ A := List.mem_of_mem_drop (by rw [h]; exact List.mem_cons_self ..)
    have hc : crossL (a :: r) B g = B.flatMap (g a) ++ crossL r B g := rfl
    rw [hc, List.length_append] at hl
    have e := mean_cross__mean_Pair_mean_Pair_mean_Pair_l2s B fv g a A (A.length : Int) (i : Int) hB (hg a hm) B 0 acc rfl (by omega)
    rw [Int.natCast_zero] at e
    rw [mean_cross__mean_Pair_mean_Pair_mean_Pair_l0_eq]
    simp only [h2, h3, h4, cond_true, e, Option.bind_some, w_succ (show i < 9223372036854775807 by omega)]
    rw [mean_cross__mean_Pair_mean_Pair_mean_Pair_l0s B fv g A hA hB hg r (i + 1) (acc ++ B.flatMap (g a)) h5 (by rw [List.length_append]; omega), hc, List.append_assoc]

theorem mean_cross__mean_Pair_mean_Pair_mean_Pair_s [Dfr] (A : List Qc) (B : List Qc) (fv : FnV) (g : Qc → Qc → List Qc) (hA : A.length ≤ 1000000000) (hB : B.length ≤ 1000000000) (hl : (crossL A B g).length ≤ 1000000000)
    (hg : ∀ a ∈ A, ∀ b ∈ B, dyn E fv [.agg [.slice 9 .str a.1.1 .no, .int .i64 a.1.2, .slice 9 .str a.2.1 .no, .int .i64 a.2.2], .agg [.slice 9 .str b.1.1 .no, .int .i64 b.1.2, .slice 9 .str b.2.1 .no, .int .i64 b.2.2]] (.slice 70 (.pair (.pair (.slice 9 .str) (.int .i64)) (.pair (.slice 9 .str) (.int .i64)))) = some (g a b)) : mean_cross__mean_Pair_mean_Pair_mean_Pair A B fv = some (crossL A B g) := by
  have e := mean_cross__mean_Pair_mean_Pair_mean_Pair_l0s B fv g A hA hB hg A 0 [] rfl (by simpa using hl)
  rw [Int.natCast_zero] at e
  rw [mean_cross__mean_Pair_mean_Pair_mean_Pair_eq, e]
  rfl

theorem mean_cross__mean_Pair_trace_Trace_mean_Pair_l2s [Dfr] (B : List Tc) (fv : FnV) (g : Qc → Tc → List Qc) (a : Qc) (A : List Qc) (n i : Int) (hB : B.length ≤ 1000000000)
    (hg : ∀ b ∈ B, dyn E fv [.agg [.slice 9 .str a.1.1 .no, .int .i64 a.1.2, .slice 9 .str a.2.1 .no, .int .i64 a.2.2], .agg [.slice 9 .str b.1 .no, .int .i64 b.2]] (.slice 70 (.pair (.pair (.slice 9 .str) (.int .i64)) (.pair (.slice 9 .str) (.int .i64)))) = some (g a b)) : ∀ (r : List Tc) (j : Nat) (acc : List Qc), B.drop j = r → acc.length + (r.flatMap (g a)).length ≤ 1000000000 →
    mean_cross__mean_Pair_trace_Trace_mean_Pair_l2 B fv acc a A n i B (B.length : Int) (j : Int) = some (0, (B, fv, acc ++ r.flatMap (g a), A, n, i))
  | [], j, acc, h, hl => by
    obtain ⟨h1, h2⟩ := drop_nil h
    rw [mean_cross__mean_Pair_trace_Trace_mean_Pair_l2_eq]
    simp only [h2, cond_false, List.flatMap_nil, List.append_nil]
  | b :: r, j, acc, h, hl => by
    obtain ⟨h1, h2, h3, h4, h5, h6⟩ := drop_cons h
    have hm : b ∈ B := List.mem_of_mem_drop (by rw [h]; exact List.mem_cons_self ..)
    simp only [List.flatMap_cons, List.length_append] at hl
    rw [mean_cross__mean_Pair_trace_Trace_mean_Pair_l2_eq]
    simp only [h2, h3, h4, cond_true, hg b hm, Option.bind_some, room (show (acc.length + (g a b).length) * 64 ≤ 140737488355328 by omega), w_succ (show j < 9223372036854775807 by omega)]
    rw [mean_cross__mean_Pair_trace_Trace_mean_Pair_l2s B fv g a A n i hB hg r (j + 1) (acc ++ g a b) h5 (by rw [List.length_append]; omega)]
    simp only [List.flatMap_cons, List.append_assoc]

theorem mean_cross__mean_Pair_trace_Trace_mean_Pair_l0s [Dfr] (B : List Tc) (fv : FnV) (g : Qc → Tc → List Qc) (A : List Qc) (hA : A.length ≤ 1000000000) (hB : B.length ≤ 1000000000)
    (hg : ∀ a ∈ A, ∀ b ∈ B, dyn E fv [.agg [.slice 9 .str a.1.1 .no, .int .i64 a.1.2, .slice 9 .str a.2.1 .no, .int .i64 a.2.2], .agg [.slice 9 .str b.1 .no, .int .i64 b.2]] (.slice 70 (.pair (.pair (.slice 9 .str) (.int .i64)) (.pair (.slice 9 .str) (.int .i64)))) = some (g a b)) : ∀ (r : List Qc) (i : Nat) (acc : List Qc), A.drop i = r → acc.length + (crossL r B g).length ≤ 1000000000 →
    mean_cross__mean_Pair_trace_Trace_mean_Pair_l0 B fv acc A (A.length : Int) (i : Int) = some (0, acc ++ crossL r B g)
  | [], i, acc, h, hl => by
    obtain ⟨h1, h2⟩ := drop_nil h
    rw [mean_cross__mean_Pair_trace_Trace_mean_Pair_l0_eq]
    simp only [h2, cond_false, crossL, List.flatMap_nil, List.append_nil]
  | a :: r, i, acc, h, hl => by
    obtain ⟨h1, h2, h3, h4, h5, h6⟩ := drop_cons h
    have hm : a ∈ A := List.mem_of_mem_drop (by rw [h]; exact List.mem_cons_self ..)
    have hc : crossL (a :: r) B g = B.flatMap (g a) ++ crossL r B g := rfl
    rw [hc, List.length_append] at hl
    have e := mean_cross__mean_Pair_trace_Trace_mean_Pair_l2s B fv g a A (A.length : Int) (i : Int) hB (hg a hm) B 0 acc rfl (by omega)
    rw [Int.natCast_zero] at e
    rw [mean_cross__mean_Pair_trace_Trace_mean_Pair_l0_eq]
    simp only [h2, h3, h4, cond_true, e, Option.bind_some, w_succ (show i < 9223372036854775807 by omega)]
    rw [mean_cross__mean_Pair_trace_Trace_mean_Pair_l0s B fv g A hA hB hg r (i + 1) (acc ++ B.flatMap (g a)) h5 (by rw [List.length_append]; omega), hc, List.append_assoc]

theorem mean_cross__mean_Pair_trace_Trace_mean_Pair_s [Dfr] (A : List Qc) (B : List Tc) (fv : FnV) (g : Qc → Tc → List Qc) (hA : A.length ≤ 1000000000) (hB : B.length ≤ 1000000000) (hl : (crossL A B g).length ≤ 1000000000)
    (hg : ∀ a ∈ A, ∀ b ∈ B, dyn E fv [.agg [.slice 9 .str a.1.1 .no, .int .i64 a.1.2, .slice 9 .str a.2.1 .no, .int .i64 a.2.2], .agg [.slice 9 .str b.1 .no, .int .i64 b.2]] (.slice 70 (.pair (.pair (.slice 9 .str) (.int .i64)) (.pair (.slice 9 .str) (.int .i64)))) = some (g a b)) : mean_cross__mean_Pair_trace_Trace_mean_Pair A B fv = some (crossL A B g) := by
  have e := mean_cross__mean_Pair_trace_Trace_mean_Pair_l0s B fv g A hA hB hg A 0 [] rfl (by simpa using hl)
  rw [Int.natCast_zero] at e
  rw [mean_cross__mean_Pair_trace_Trace_mean_Pair_eq, e]
  rfl

/-! ### pairs put in order -/
def shortQ (l : List Qc) : Prop := ∀ x ∈ l, x.1.1.length ≤ 4611686018427387904 ∧ x.2.1.length ≤ 4611686018427387904

theorem mean_set_1_s [Dfr] (x y : Qc) (hx : x.1.1.length ≤ 4611686018427387904 ∧ x.2.1.length ≤ 4611686018427387904) : mean_set_1 x y = some (ordN (cmpQ x y)) := by
  rw [mean_set_1_eq, trace_Compare_s _ _ hx.1, Option.bind_some, trace_Compare_s _ _ hx.2, Option.bind_some, cmp_Or__int2_s, Option.bind_some]
  show _ = some (ordN (Ordering.then _ _))
  rw [ordN_then]

theorem mean_set_2_s [Dfr] (x y : Qc) (hx : x.1.1.length ≤ 4611686018427387904 ∧ x.2.1.length ≤ 4611686018427387904) : mean_set_2 x y mean_set_1_id = some (decide (cmpQ x y = .eq)) := by
  have e : dyn E ⟨mean_set_1_id, []⟩ [.agg [.slice 9 .str x.1.1 .no, .int .i64 x.1.2, .slice 9 .str x.2.1 .no, .int .i64 x.2.2], .agg [.slice 9 .str y.1.1 .no, .int .i64 y.1.2, .slice 9 .str y.2.1 .no, .int .i64 y.2.2]] (.int .i64) = some (ordN (cmpQ x y)) :=
    (mean_set_1_dyn x.1.1 x.1.2 x.2.1 x.2.2 y.1.1 y.1.2 y.2.1 y.2.2).trans (mean_set_1_s x y hx)
  rw [mean_set_2_eq, e, Option.bind_some, ordN_beq]

theorem mean_set_s [Dfr] (l : List Qc) (hl : l.length ≤ 1000000000) (hs : shortQ l) : mean_set l = some (canon cmpQ l) := by
  rw [mean_set_eq]
  simp only [Option.bind_fun_some]
  exact sort_compact (u := .pair (.pair (.slice 9 .str) (.int .i64)) (.pair (.slice 9 .str) (.int .i64))) ordQ (by omega) (fun x hx y hy => (mean_set_1_dyn x.1.1 x.1.2 x.2.1 x.2.2 y.1.1 y.1.2 y.2.1 y.2.2).trans (mean_set_1_s x y (hs x hx)))
    (fun x hx y hy => (mean_set_2_dyn x.1.1 x.1.2 x.2.1 x.2.2 y.1.1 y.1.2 y.2.1 y.2.2 mean_set_1_id).trans (mean_set_2_s x y (hs x hx)))

/-! ### the functions handed over -/
theorem mean_behind_s [Dfr] (p q : Tc) (h : p.1.length + q.1.length ≤ 19) : mean_behind p q = some (behT p q) := by
  rw [mean_behind_eq, trace_Then_s _ _ (by show p.1.length + q.1.length ≤ _; omega)]
  simp [thenT, behT]

theorem mean_plain_1_s [Dfr] (p q : Tc) (h : p.1.length + q.1.length ≤ 19) : mean_plain_1 p q = some [thenT p q] := by
  rw [mean_plain_1_eq, trace_Then_s _ _ (by omega)]; rfl

theorem mean_plain_2_s [Dfr] (p q : Tc) (h : p.1.length + q.1.length ≤ 19) : mean_plain_2 p q = some [handF p q] := by
  rw [mean_plain_2_eq, mean_behind_s p q h]
  unfold handF
  by_cases h2 : p.2 = 2
  · rw [show (p.2 != 2) = false by simp [h2], if_pos h2]; rfl
  · rw [show (p.2 != 2) = true by simpa using h2, if_neg h2]; rfl

theorem mean_going_1_s [Dfr] (p q : Tc) : mean_going_1 p q = some [goF p q] := by
  rw [mean_going_1_eq, mean_ends_eq]
  unfold goF
  by_cases h2 : p.2 = 1
  · rw [show (p.2 != 1) = false by simp [h2], if_pos h2]; rfl
  · rw [show (p.2 != 1) = true by simpa using h2, if_neg h2]; rfl

theorem mean_paired_1_s [Dfr] (a b : Qc) (h1 : a.1.1.length + b.1.1.length ≤ 19) (h2 : a.2.1.length + b.2.1.length ≤ 19) : mean_paired_1 a b = some [seqF a b] := by
  rw [mean_paired_1_eq, trace_Then_s a.1 b.1 (by omega), trace_Then_s b.2 a.2 (by omega)]
  unfold seqF
  by_cases h2 : a.1.2 = 1
  · rw [show (a.1.2 != 1) = false by simp [h2], if_pos h2]; rfl
  · rw [show (a.1.2 != 1) = true by simpa using h2, if_neg h2]; rfl

theorem mean_paired_3_s [Dfr] (a : Qc) (c : Tc) (h : a.2.1.length + c.1.length ≤ 19) : mean_paired_3 a c = some [(a.1, thenT a.2 c)] := by
  rw [mean_paired_3_eq, trace_Then_s a.2 c (by omega)]; rfl

theorem mean_paired_2_s [Dfr] [HasMix] (a b : Qc) (h1 : a.1.1.length + b.1.1.length ≤ 19) (h2 : a.2.1.length + b.2.1.length ≤ 19) (h3 : (parF a b).length ≤ 1000000000) : mean_paired_2 a b = some (parF a b) := by
  have hl : ∀ (e : Int) (p q : List ByteArray), p.length + q.length ≤ 19 → (parE e p q).length ≤ 1000000000 := fun e p q h => by
    have := length_mixS_le (a := p) (b := q) h
    unfold parE
    rw [List.length_map]; omega
  rw [mean_paired_2_eq, trace_Par_s _ _ h1, Option.bind_some, trace_Par_s _ _ h2, Option.bind_some]
  have e0 : parF a b = crossL (parE (bs a.1.2 b.1.2) a.1.1 b.1.1) (parE (bs a.2.2 b.2.2) a.2.1 b.2.1) fun p q => [(p, q)] := by
    unfold parF crossL
    congr 1
    funext p
    exact List.map_eq_flatMap
  rw [mean_cross__trace_Trace_trace_Trace_mean_Pair_s _ _ _ (fun p q => [(p, q)]) (hl _ _ _ h1) (hl _ _ _ h2) (by rw [← e0]; exact h3)
    (fun p _ q _ => (mean_paired_2_1_dyn p.1 p.2 q.1 q.2).trans (mean_paired_2_1_eq p q)), e0]
  rfl

theorem mean_going_s [Dfr] (A B : List Tc) (hA : A.length ≤ 1000000000) (hB : B.length ≤ 1000000000) (hl : (cross1 A B goF).length ≤ 1000000000) : mean_going A B = some (cross1 A B goF) := by
  rw [mean_going_eq, mean_cross__trace_Trace_trace_Trace_mean_Pair_s A B _ (fun p q => [goF p q]) hA hB hl (fun p _ q _ => (mean_going_1_dyn p.1 p.2 q.1 q.2).trans (mean_going_1_s p q))]
  rfl

theorem mean_plain_l1s [Dfr] (Q : List Qc) (hQ : Q.length ≤ 1000000000) (hs : ∀ x ∈ Q, x.1.1.length + x.2.1.length ≤ 19) : ∀ (r : List Qc) (i : Nat) (acc : List Tc), Q.drop i = r → acc.length ≤ i → mean_plain_l1 acc Q (Q.length : Int) (i : Int) = some (0, acc ++ r.flatMap blkF)
  | [], i, acc, h, ha => by
    obtain ⟨h1, h2⟩ := drop_nil h
    rw [mean_plain_l1_eq]
    simp only [h2, cond_false, List.flatMap_nil, List.append_nil]
  | x :: r, i, acc, h, ha => by
    obtain ⟨h1, h2, h3, h4, h5, h6⟩ := drop_cons h
    have hm := hs x (List.mem_of_mem_drop (by rw [h]; exact List.mem_cons_self ..))
    have hw := w_succ (show i < 9223372036854775807 by omega)
    rw [mean_plain_l1_eq]
    simp only [h2, h3, h4, cond_true, mean_behind_s x.1 x.2 hm, Option.bind_some, room (show (acc.length + 1) * 32 ≤ 140737488355328 by omega), hw, List.flatMap_cons]
    unfold blkF
    by_cases e1 : x.1.2 = 1
    · rw [show (x.1.2 == 1) = true by simp [e1], if_pos e1, cond_true, mean_plain_l1s Q hQ hs r (i + 1) _ h5 (by simp; omega), List.append_assoc]
      rfl
    · rw [show (x.1.2 == 1) = false by simpa using e1, if_neg e1, cond_false]
      by_cases e2 : x.1.2 = 2
      · rw [show (x.1.2 == 2) = true by simp [e2], if_pos e2, cond_true, mean_plain_l1s Q hQ hs r (i + 1) _ h5 (by simp; omega), List.append_assoc]
        rfl
      · rw [show (x.1.2 == 2) = false by simpa using e2, if_neg e2, cond_false, mean_plain_l1s Q hQ hs r (i + 1) _ h5 (by omega)]
        rfl

theorem mean_paired_l1s [Dfr] (l : List Nd) (hl : 0 < l.length) (C : List Tc) (hC : C.length ≤ 1000000000) : ∀ (r : List Tc) (i : Nat) (acc : List Qc), C.drop i = r → acc.length ≤ i → mean_paired_l1 l acc C (C.length : Int) (i : Int) = some (0, acc ++ r.map fun q => (([], (ix l 0).2.2), q))
  | [], i, acc, h, ha => by
    obtain ⟨h1, h2⟩ := drop_nil h
    rw [mean_paired_l1_eq]
    simp only [h2, cond_false, List.map_nil, List.append_nil]
  | x :: r, i, acc, h, ha => by
    obtain ⟨h1, h2, h3, h4, h5, h6⟩ := drop_cons h
    rw [mean_paired_l1_eq]
    simp only [h2, h3, h4, cond_true, idxOk_zero hl, mean_ends_eq, Option.bind_some, room (show (acc.length + 1) * 64 ≤ 140737488355328 by omega), w_succ (show i < 9223372036854775807 by omega), List.map_cons]
    rw [mean_paired_l1s l hl C hC r (i + 1) _ h5 (by simp; omega), List.append_assoc]
    rfl

/-! ### what is told of terms -/
theorem sm_size [Dfr] {m : Tm} (h : m.small) : m.size ≤ 100000 := by have := h.1; omega

theorem sm_short [Dfr] {m : Tm} (h : m.small) : ∀ x ∈ m.tr, x.1.length ≤ 6 := fun x hx => Nat.le_trans (Tm.len_tr hx) h.2

theorem sm_shortQ [Dfr] {m : Tm} (h : m.small) : ∀ x ∈ m.pq, x.1.1.length + x.2.1.length ≤ 6 := fun x hx => Nat.le_trans (Tm.len_pq hx) h.2

theorem sm_big [Dfr] {m : Tm} (h : m.small) : m.big ≤ 400000000 := Tm.big_small h.1 h.2

theorem sm_len [Dfr] {m : Tm} (h : m.small) : m.tr.length ≤ 400000000 ∧ m.pq.length ≤ 400000000 := ⟨Nat.le_trans (Tm.len_sem m).1 (sm_big h), Nat.le_trans (Tm.len_sem m).2 (sm_big h)⟩
/-- Rows of which each one's actions are few. -/
def fewT (l : List Tc) : Prop := ∀ x ∈ l, x.1.length ≤ 12

theorem fewT.short [Dfr] {l : List Tc} (h : fewT l) : shortT l := fun x hx => by have := h x hx; omega

def fewQ (l : List Qc) : Prop := ∀ x ∈ l, x.1.1.length ≤ 12 ∧ x.2.1.length ≤ 12

theorem fewQ.short [Dfr] {l : List Qc} (h : fewQ l) : shortQ l := fun x hx => by have := h x hx; omega

theorem len_then [Dfr] (p q : Tc) : (thenT p q).1.length ≤ p.1.length + q.1.length := by
  unfold thenT
  split
  · rw [List.length_append]; exact Nat.le_refl _
  · omega

theorem sm2 [Dfr] {a b m : Tm} (h : m.small) (hs : m.size = a.size + b.size + 1) (hn : m.nm = a.nm ++ b.nm) : a.small ∧ b.small := by
  obtain ⟨h1, h2⟩ := h
  rw [hn, List.length_append] at h2
  exact ⟨⟨by omega, by omega⟩, ⟨by omega, by omega⟩⟩

theorem sm1 [Dfr] {a m : Tm} (h : m.small) (hs : m.size = a.size + 1) (hn : m.nm = a.nm) : a.small := by
  obtain ⟨h1, h2⟩ := h
  rw [hn] at h2
  exact ⟨by omega, h2⟩

theorem mean_s [Dfr] [HasMix] : ∀ m : Tm, m.small → (m.po = true → mean_plain m.row = some m.tr) ∧ (m.qo = true → mean_paired m.row = some m.pq)
  | .act s, h => ⟨fun _ => by
      have hk := kids0 (.act s) rfl (sm_size h)
      have hx : ix (Tm.act s).row 0 = (1, s, 0) := rfl
      have hi : idxOk 0 (Tm.act s).row.length = true := rfl
      have hset := trace_Set_s [([s], 1)] (by simp) (fun x hx => by rw [List.mem_singleton.1 hx]; simp)
      rw [mean_plain_eq, hk]
      simp only [Option.bind_some, hx, hi, cond_true, hset]
      rfl, fun h => by simp [Tm.qo] at h⟩
  | .skip, h => ⟨fun _ => by
      have hk := kids0 .skip rfl (sm_size h)
      have hx : ix Tm.skip.row 0 = nd 2 := rfl
      have hi : idxOk 0 Tm.skip.row.length = true := rfl
      have hset := trace_Set_s [([], 1)] (by simp) (fun x hx => by rw [List.mem_singleton.1 hx]; simp)
      rw [mean_plain_eq, hk]
      simp only [Option.bind_some, hx, hi, cond_true, mean_ends_eq, hset]
      rfl, fun h => by simp [Tm.qo] at h⟩
  | .throw, h => ⟨fun _ => by
      have hk := kids0 .throw rfl (sm_size h)
      have hx : ix Tm.throw.row 0 = nd 3 := rfl
      have hi : idxOk 0 Tm.throw.row.length = true := rfl
      have hset := trace_Set_s [([], 2)] (by simp) (fun x hx => by rw [List.mem_singleton.1 hx]; simp)
      rw [mean_plain_eq, hk]
      simp only [Option.bind_some, hx, hi, cond_true, mean_ends_eq, hset]
      rfl, fun h => by simp [Tm.qo] at h⟩
  | .yield, h => ⟨fun _ => by
      have hk := kids0 .yield rfl (sm_size h)
      have hx : ix Tm.yield.row 0 = nd 4 := rfl
      have hi : idxOk 0 Tm.yield.row.length = true := rfl
      have hset := trace_Set_s [([], 1), ([], 3)] (by simp) (fun x hx => by simp at hx; rcases hx with h | h <;> rw [h] <;> simp)
      rw [mean_plain_eq, hk]
      simp only [Option.bind_some, hx, hi, cond_true, mean_ends_eq, hset]
      rfl, fun h => by simp [Tm.qo] at h⟩
  | .over s, h => ⟨fun _ => by
      have hk := kids0 (.over s) rfl (sm_size h)
      have hx : ix (Tm.over s).row 0 = (11, ByteArray.empty, s) := rfl
      have hi : idxOk 0 (Tm.over s).row.length = true := rfl
      have hset := trace_Set_s [([], s)] (by simp) (fun x hx => by rw [List.mem_singleton.1 hx]; simp)
      rw [mean_plain_eq, hk]
      simp only [Option.bind_some, hx, hi, cond_true, mean_ends_eq, hset]
      rfl, fun h => by simp [Tm.qo] at h⟩
  | .seq a b, h => by
    obtain ⟨ha, hb⟩ := sm2 h (Tm.size_seq a b) rfl
    have hk := kids2 (.seq a b) rfl (sm_size h)
    have hx : ix (Tm.seq a b).row 0 = nd 5 := rfl
    have hi : idxOk 0 (Tm.seq a b).row.length = true := idxOk_zero (by rw [Tm.len_row]; exact Tm.size_pos _)
    have i0 : ix [a.row, b.row] 0 = a.row := rfl
    have i1 : ix [a.row, b.row] 1 = b.row := rfl
    have j0 : idxOk 0 [a.row, b.row].length = true := rfl
    have j1 : idxOk 1 [a.row, b.row].length = true := rfl
    refine ⟨fun ho => ?_, fun ho => ?_⟩
    · simp only [Tm.po, Bool.and_eq_true] at ho
      have ea := (mean_s a ha).1 ho.1
      have eb := (mean_s b hb).1 (Tm.po_of_pl ho.2)
      have hl := Tm.raw_cross (f := thenT) (Tm.len_sem a).1 (Tm.len_sem b).1 (m := .seq a b) rfl (Nat.le_refl _)
      have hbig := sm_big h
      have ec := mean_cross__trace_Trace_trace_Trace_trace_Trace_s a.tr b.tr ⟨mean_plain_1_id, []⟩ (fun p q => [thenT p q]) (by have := (sm_len ha).1; omega) (by have := (sm_len hb).1; omega) (by unfold cross1 at hl; omega)
        (fun p hp q hq => (mean_plain_1_dyn p.1 p.2 q.1 q.2).trans (mean_plain_1_s p q (by have := sm_short ha p hp; have := sm_short hb q hq; omega)))
      have es := trace_Set_s (cross1 a.tr b.tr thenT) (by omega) (fewT.short fun x hx => by
        obtain ⟨p, hp, q, hq, rfl⟩ := mem_cross1.1 hx
        have := sm_short ha p hp; have := sm_short hb q hq; have := len_then p q; omega)
      unfold cross1 at es
      rw [mean_plain_eq, hk]
      simp only [Option.bind_some, hx, hi, cond_true, i0, i1, j0, j1, ea, eb, ec, es]
      rfl
    · simp only [Tm.qo, Bool.and_eq_true] at ho
      have ea := (mean_s a ha).2 ho.1
      have eb := (mean_s b hb).2 (Tm.qo_of_pa ho.2)
      have hl := Tm.raw_cross (f := seqF) (Tm.len_sem a).2 (Tm.len_sem b).2 (m := .seq a b) rfl (Nat.le_refl _)
      have hbig := sm_big h
      have ec := mean_cross__mean_Pair_mean_Pair_mean_Pair_s a.pq b.pq ⟨mean_paired_1_id, []⟩ (fun p q => [seqF p q]) (by have := (sm_len ha).2; omega) (by have := (sm_len hb).2; omega) (by unfold cross1 at hl; omega)
        (fun p hp q hq => (mean_paired_1_dyn p.1.1 p.1.2 p.2.1 p.2.2 q.1.1 q.1.2 q.2.1 q.2.2).trans (mean_paired_1_s p q (by have := sm_shortQ ha p hp; have := sm_shortQ hb q hq; omega) (by have := sm_shortQ ha p hp; have := sm_shortQ hb q hq; omega)))
      have es := mean_set_s (cross1 a.pq b.pq seqF) (by omega) (fewQ.short fun x hx => by
        obtain ⟨p, hp, q, hq, rfl⟩ := mem_cross1.1 hx
        have := sm_shortQ ha p hp; have := sm_shortQ hb q hq
        unfold seqF
        split
        · have := len_then p.1 q.1; have := len_then q.2 p.2
          exact ⟨by show (thenT p.1 q.1).1.length ≤ 12; omega, by show (thenT q.2 p.2).1.length ≤ 12; omega⟩
        · exact ⟨by omega, by omega⟩)
      unfold cross1 at es
      rw [mean_paired_eq, hk]
      simp only [Option.bind_some, hx, hi, cond_true, i0, i1, j0, j1, ea, eb, ec, es]
      rfl
  | .alt a b, h => by
    obtain ⟨ha, hb⟩ := sm2 h (Tm.size_alt a b) rfl
    have hk := kids2 (.alt a b) rfl (sm_size h)
    have hx : ix (Tm.alt a b).row 0 = nd 6 := rfl
    have hi : idxOk 0 (Tm.alt a b).row.length = true := idxOk_zero (by rw [Tm.len_row]; exact Tm.size_pos _)
    have i0 : ix [a.row, b.row] 0 = a.row := rfl
    have i1 : ix [a.row, b.row] 1 = b.row := rfl
    have j0 : idxOk 0 [a.row, b.row].length = true := rfl
    have j1 : idxOk 1 [a.row, b.row].length = true := rfl
    have la := sm_len ha
    have lb := sm_len hb
    refine ⟨fun ho => ?_, fun ho => ?_⟩
    · simp only [Tm.po, Bool.and_eq_true] at ho
      have ea := (mean_s a ha).1 (Tm.po_of_pl ho.1)
      have eb := (mean_s b hb).1 (Tm.po_of_pl ho.2)
      have ec := slices_Concat__trace_Trace_s [a.tr, b.tr] (by simp only [sumLen]; omega) (by simp)
      rw [show [a.tr, b.tr].flatten = a.tr ++ b.tr by simp] at ec
      have es := trace_Set_s (a.tr ++ b.tr) (by rw [List.length_append]; omega) (fewT.short fun x hx => by
        rcases List.mem_append.1 hx with hx | hx
        · have := sm_short ha x hx; omega
        · have := sm_short hb x hx; omega)
      rw [mean_plain_eq, hk]
      simp only [Option.bind_some, hx, hi, cond_true, i0, i1, j0, j1, ea, eb, ec, es]
      rfl
    · simp only [Tm.qo, Bool.and_eq_true] at ho
      have ea := (mean_s a ha).2 (Tm.qo_of_pa ho.1)
      have eb := (mean_s b hb).2 (Tm.qo_of_pa ho.2)
      have ec := slices_Concat__mean_Pair_s [a.pq, b.pq] (by simp only [sumLen]; omega) (by simp)
      rw [show [a.pq, b.pq].flatten = a.pq ++ b.pq by simp] at ec
      have es := mean_set_s (a.pq ++ b.pq) (by rw [List.length_append]; omega) (fewQ.short fun x hx => by
        rcases List.mem_append.1 hx with hx | hx
        · have := sm_shortQ ha x hx; omega
        · have := sm_shortQ hb x hx; omega)
      rw [mean_paired_eq, hk]
      simp only [Option.bind_some, hx, hi, cond_true, i0, i1, j0, j1, ea, eb, ec, es]
      rfl
  | .par a b, h => by
    obtain ⟨ha, hb⟩ := sm2 h (Tm.size_par a b) rfl
    have hk := kids2 (.par a b) rfl (sm_size h)
    have hx : ix (Tm.par a b).row 0 = nd 7 := rfl
    have hi : idxOk 0 (Tm.par a b).row.length = true := idxOk_zero (by rw [Tm.len_row]; exact Tm.size_pos _)
    have i0 : ix [a.row, b.row] 0 = a.row := rfl
    have i1 : ix [a.row, b.row] 1 = b.row := rfl
    have j0 : idxOk 0 [a.row, b.row].length = true := rfl
    have j1 : idxOk 1 [a.row, b.row].length = true := rfl
    have hbig := sm_big h
    refine ⟨fun ho => ?_, fun ho => ?_⟩
    · simp only [Tm.po, Bool.and_eq_true] at ho
      have ea := (mean_s a ha).1 ho.1
      have eb := (mean_s b hb).1 ho.2
      have hl := Tm.raw_par (Tm.len_sem a).1 (Tm.len_sem b).1
      have ec := mean_cross__trace_Trace_trace_Trace_trace_Trace_s a.tr b.tr ⟨trace_Par_id, []⟩ (fun p q => parE (bs p.2 q.2) p.1 q.1) (by have := (sm_len ha).1; omega) (by have := (sm_len hb).1; omega) (by omega)
        (fun p hp q hq => (trace_Par_dyn p.1 p.2 q.1 q.2).trans (trace_Par_s p q (by have := sm_short ha p hp; have := sm_short hb q hq; omega)))
      have es := trace_Set_s (crossL a.tr b.tr fun p q => parE (bs p.2 q.2) p.1 q.1) (by omega) (fewT.short fun x hx => by
        obtain ⟨p, hp, q, hq, hx⟩ := mem_crossL.1 hx
        have := (mem_parE.1 hx).1.len
        have := sm_short ha p hp; have := sm_short hb q hq; omega)
      rw [mean_plain_eq, hk]
      simp only [Option.bind_some, hx, hi, cond_true, i0, i1, j0, j1, ea, eb, ec, es]
      rfl
    · simp only [Tm.qo, Bool.and_eq_true] at ho
      have ea := (mean_s a ha).2 ho.1
      have eb := (mean_s b hb).2 ho.2
      have hl := Tm.raw_parQ (Tm.len_sem a).2 (Tm.len_sem b).2
      have ec := mean_cross__mean_Pair_mean_Pair_mean_Pair_s a.pq b.pq ⟨mean_paired_2_id, []⟩ parF (by have := (sm_len ha).2; omega) (by have := (sm_len hb).2; omega) (by omega)
        (fun p hp q hq => (mean_paired_2_dyn p.1.1 p.1.2 p.2.1 p.2.2 q.1.1 q.1.2 q.2.1 q.2.2).trans (mean_paired_2_s p q (by have := sm_shortQ ha p hp; have := sm_shortQ hb q hq; omega) (by have := sm_shortQ ha p hp; have := sm_shortQ hb q hq; omega) (by
          have h1 := Tm.len_parF p q
          have h2 := chN_le (p.1.1.length + p.2.1.length) (q.1.1.length + q.2.1.length)
          have h3 : 2 ^ (p.1.1.length + p.2.1.length + (q.1.1.length + q.2.1.length)) ≤ 2 ^ 12 := Nat.pow_le_pow_right (by omega) (by have := sm_shortQ ha p hp; have := sm_shortQ hb q hq; omega)
          omega)))
      have es := mean_set_s (crossL a.pq b.pq parF) (by omega) (fewQ.short fun x hx => by
        obtain ⟨p, hp, q, hq, hx⟩ := mem_crossL.1 hx
        obtain ⟨⟨h1, _⟩, h2, _⟩ := Tm.mem_parF.1 hx
        have := h1.len; have := h2.len
        have := sm_shortQ ha p hp; have := sm_shortQ hb q hq; omega)
      rw [mean_paired_eq, hk]
      simp only [Option.bind_some, hx, hi, cond_true, i0, i1, j0, j1, ea, eb, ec, es]
      rfl
  | .hand a b, h => by
    obtain ⟨ha, hb⟩ := sm2 h (Tm.size_hand a b) rfl
    have hk := kids2 (.hand a b) rfl (sm_size h)
    have hx : ix (Tm.hand a b).row 0 = nd 8 := rfl
    have hi : idxOk 0 (Tm.hand a b).row.length = true := idxOk_zero (by rw [Tm.len_row]; exact Tm.size_pos _)
    have i0 : ix [a.row, b.row] 0 = a.row := rfl
    have i1 : ix [a.row, b.row] 1 = b.row := rfl
    have j0 : idxOk 0 [a.row, b.row].length = true := rfl
    have j1 : idxOk 1 [a.row, b.row].length = true := rfl
    have hbig := sm_big h
    refine ⟨fun ho => ?_, fun ho => by simp [Tm.qo] at ho⟩
    simp only [Tm.po, Bool.and_eq_true] at ho
    have ea := (mean_s a ha).1 ho.1
    have eb := (mean_s b hb).1 (Tm.po_of_pl ho.2)
    have hl := Tm.raw_cross (f := handF) (Tm.len_sem a).1 (Tm.len_sem b).1 (m := .hand a b) rfl (Nat.le_refl _)
    have ec := mean_cross__trace_Trace_trace_Trace_trace_Trace_s a.tr b.tr ⟨mean_plain_2_id, []⟩ (fun p q => [handF p q]) (by have := (sm_len ha).1; omega) (by have := (sm_len hb).1; omega) (by unfold cross1 at hl; omega)
      (fun p hp q hq => (mean_plain_2_dyn p.1 p.2 q.1 q.2).trans (mean_plain_2_s p q (by have := sm_short ha p hp; have := sm_short hb q hq; omega)))
    have es := trace_Set_s (cross1 a.tr b.tr handF) (by omega) (fewT.short fun x hx => by
      obtain ⟨p, hp, q, hq, rfl⟩ := mem_cross1.1 hx
      have := sm_short ha p hp; have := sm_short hb q hq
      unfold handF behT
      split
      · simp only [List.length_append]; omega
      · omega)
    unfold cross1 at es
    rw [mean_plain_eq, hk]
    simp only [Option.bind_some, hx, hi, cond_true, i0, i1, j0, j1, ea, eb, ec, es]
    rfl
  | .block a, h => by
    have ha := sm1 h (Tm.size_block a) rfl
    have hk := kids1 (.block a) rfl (sm_size h)
    have hx : ix (Tm.block a).row 0 = nd 9 := rfl
    have hi : idxOk 0 (Tm.block a).row.length = true := idxOk_zero (by rw [Tm.len_row]; exact Tm.size_pos _)
    have i0 : ix [a.row] 0 = a.row := rfl
    have j0 : idxOk 0 [a.row].length = true := rfl
    have la := (sm_len ha).2
    refine ⟨fun ho => ?_, fun ho => by simp [Tm.qo] at ho⟩
    simp only [Tm.po] at ho
    have ea := (mean_s a ha).2 ho
    have ec := mean_plain_l1s a.pq (by omega) (fun x hx => by have := sm_shortQ ha x hx; omega) a.pq 0 [] rfl (by simp)
    rw [Int.natCast_zero] at ec
    have hl := Tm.raw_block (Q := a.pq)
    have es := trace_Set_s (a.pq.flatMap blkF) (by omega) (fewT.short fun x hx => by
      obtain ⟨z, hz, hx⟩ := List.mem_flatMap.1 hx
      have := sm_shortQ ha z hz
      rcases Tm.mem_blkF.1 hx with ⟨_, rfl⟩ | ⟨_, rfl⟩
      · omega
      · unfold behT; simp only [List.length_append]; omega)
    rw [mean_plain_eq, hk]
    simp only [Option.bind_some, hx, hi, cond_true, i0, j0, ea, ec, List.nil_append, es]
    rfl
  | .pair a b, h => by
    obtain ⟨ha, hb⟩ := sm2 h (Tm.size_pair a b) rfl
    have hk := kids2 (.pair a b) rfl (sm_size h)
    have hx : ix (Tm.pair a b).row 0 = nd 10 := rfl
    have hi : idxOk 0 (Tm.pair a b).row.length = true := idxOk_zero (by rw [Tm.len_row]; exact Tm.size_pos _)
    have i0 : ix [a.row, b.row] 0 = a.row := rfl
    have i1 : ix [a.row, b.row] 1 = b.row := rfl
    have j0 : idxOk 0 [a.row, b.row].length = true := rfl
    have j1 : idxOk 1 [a.row, b.row].length = true := rfl
    have hbig := sm_big h
    refine ⟨fun ho => by simp [Tm.po] at ho, fun ho => ?_⟩
    simp only [Tm.qo, Bool.and_eq_true] at ho
    have ea := (mean_s a ha).1 (Tm.po_of_pl ho.1)
    have eb := (mean_s b hb).1 (Tm.po_of_pl ho.2)
    have hl := Tm.raw_pair (Tm.len_sem a).1 (Tm.len_sem b).1
    have ec := mean_going_s a.tr b.tr (by have := (sm_len ha).1; omega) (by have := (sm_len hb).1; omega) (by omega)
    have es := mean_set_s (cross1 a.tr b.tr goF ++ [(([], 3), ([], 1))]) (by rw [List.length_append, List.length_singleton]; omega) (fewQ.short fun x hx => by
      rcases List.mem_append.1 hx with hx | hx
      · obtain ⟨p, hp, q, hq, rfl⟩ := mem_cross1.1 hx
        have := sm_short ha p hp; have := sm_short hb q hq
        refine ⟨by show p.1.length ≤ 12; omega, ?_⟩
        show (if p.2 = 1 then q else ([], 1)).1.length ≤ 12
        split
        · omega
        · simp
      · rw [List.mem_singleton.1 hx]; simp)
    rw [mean_paired_eq, hk]
    simp only [Option.bind_some, hx, hi, cond_true, i0, i1, j0, j1, ea, eb, ec, mean_ends_eq, room (show ((cross1 a.tr b.tr goF).length + 1) * 64 ≤ 140737488355328 by omega), es]
    rfl
  | .going a b, h => by
    obtain ⟨ha, hb⟩ := sm2 h (Tm.size_going a b) rfl
    have hk := kids2 (.going a b) rfl (sm_size h)
    have hx : ix (Tm.going a b).row 0 = nd 12 := rfl
    have hi : idxOk 0 (Tm.going a b).row.length = true := idxOk_zero (by rw [Tm.len_row]; exact Tm.size_pos _)
    have i0 : ix [a.row, b.row] 0 = a.row := rfl
    have i1 : ix [a.row, b.row] 1 = b.row := rfl
    have j0 : idxOk 0 [a.row, b.row].length = true := rfl
    have j1 : idxOk 1 [a.row, b.row].length = true := rfl
    have hbig := sm_big h
    refine ⟨fun ho => by simp [Tm.po] at ho, fun ho => ?_⟩
    simp only [Tm.qo, Bool.and_eq_true] at ho
    have ea := (mean_s a ha).1 ho.1
    have eb := (mean_s b hb).1 (Tm.po_of_pl ho.2)
    have hl := Tm.raw_cross (f := goF) (Tm.len_sem a).1 (Tm.len_sem b).1 (m := .going a b) rfl (Nat.le_refl _)
    have ec := mean_going_s a.tr b.tr (by have := (sm_len ha).1; omega) (by have := (sm_len hb).1; omega) (by omega)
    have es := mean_set_s (cross1 a.tr b.tr goF) (by omega) (fewQ.short fun x hx => by
      obtain ⟨p, hp, q, hq, rfl⟩ := mem_cross1.1 hx
      have := sm_short ha p hp; have := sm_short hb q hq
      refine ⟨by show p.1.length ≤ 12; omega, ?_⟩
      show (if p.2 = 1 then q else ([], 1)).1.length ≤ 12
      split
      · omega
      · simp)
    rw [mean_paired_eq, hk]
    simp only [Option.bind_some, hx, hi, cond_true, i0, i1, j0, j1, ea, eb, ec, es]
    rfl
  | .stack a c, h => by
    obtain ⟨ha, hb⟩ := sm2 h (Tm.size_stack a c) rfl
    have hk := kids2 (.stack a c) rfl (sm_size h)
    have hx : ix (Tm.stack a c).row 0 = nd 13 := rfl
    have hi : idxOk 0 (Tm.stack a c).row.length = true := idxOk_zero (by rw [Tm.len_row]; exact Tm.size_pos _)
    have i0 : ix [a.row, c.row] 0 = a.row := rfl
    have i1 : ix [a.row, c.row] 1 = c.row := rfl
    have j0 : idxOk 0 [a.row, c.row].length = true := rfl
    have j1 : idxOk 1 [a.row, c.row].length = true := rfl
    have hbig := sm_big h
    refine ⟨fun ho => by simp [Tm.po] at ho, fun ho => ?_⟩
    simp only [Tm.qo, Bool.and_eq_true] at ho
    have ea := (mean_s a ha).2 ho.1
    have eb := (mean_s c hb).1 (Tm.po_of_pl ho.2)
    have hl := Tm.raw_cross (f := fun (x : Qc) (q : Tc) => (x.1, thenT x.2 q)) (Tm.len_sem a).2 (Tm.len_sem c).1 (m := .stack a c) rfl (Nat.le_refl _)
    have ec := mean_cross__mean_Pair_trace_Trace_mean_Pair_s a.pq c.tr ⟨mean_paired_3_id, []⟩ (fun x q => [(x.1, thenT x.2 q)]) (by have := (sm_len ha).2; omega) (by have := (sm_len hb).1; omega) (Nat.le_trans hl (by omega))
      (fun p hp q hq => (mean_paired_3_dyn p.1.1 p.1.2 p.2.1 p.2.2 q.1 q.2).trans (mean_paired_3_s p q (by have := sm_shortQ ha p hp; have := sm_short hb q hq; omega)))
    have es := mean_set_s (cross1 a.pq c.tr fun (x : Qc) (q : Tc) => (x.1, thenT x.2 q)) (by omega) (fewQ.short fun x hx => by
      obtain ⟨p, hp, q, hq, rfl⟩ := mem_cross1.1 hx
      have := sm_shortQ ha p hp; have := sm_short hb q hq; have := len_then p.2 q
      exact ⟨by show p.1.1.length ≤ 12; omega, by show (thenT p.2 q).1.length ≤ 12; omega⟩)
    unfold cross1 at es
    rw [mean_paired_eq, hk]
    simp only [Option.bind_some, hx, hi, cond_true, i0, i1, j0, j1, ea, eb, ec, es]
    rfl
  | .fin s c, h => by
    have ha := sm1 h (Tm.size_fin s c) rfl
    have hk := kids1 (.fin s c) rfl (sm_size h)
    have hx : ix (Tm.fin s c).row 0 = (14, ByteArray.empty, s) := rfl
    have hi : idxOk 0 (Tm.fin s c).row.length = true := idxOk_zero (by rw [Tm.len_row]; exact Tm.size_pos _)
    have i0 : ix [c.row] 0 = c.row := rfl
    have j0 : idxOk 0 [c.row].length = true := rfl
    have la := (sm_len ha).1
    refine ⟨fun ho => by simp [Tm.po] at ho, fun ho => ?_⟩
    simp only [Tm.qo] at ho
    have ea := (mean_s c ha).1 (Tm.po_of_pl ho)
    have ec := mean_paired_l1s (Tm.fin s c).row (by rw [Tm.len_row]; exact Tm.size_pos _) c.tr (by omega) c.tr 0 [] rfl (by simp)
    rw [Int.natCast_zero, hx] at ec
    have es := mean_set_s (c.tr.map fun q => (([], s), q)) (by rw [List.length_map]; omega) (fewQ.short fun x hx => by
      obtain ⟨q, hq, rfl⟩ := List.mem_map.1 hx
      have := sm_short ha q hq
      exact ⟨by simp, by show q.1.length ≤ 12; omega⟩)
    rw [mean_paired_eq, hk]
    simp only [Option.bind_some, hx, hi, cond_true, i0, j0, ea, ec, List.nil_append, es]
    rfl
end Go.Proofs.YthhefjmdfdckjaaGreatDoor.Sv
