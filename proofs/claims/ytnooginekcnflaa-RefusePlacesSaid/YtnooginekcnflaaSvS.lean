/- What the functions of the Refuse seat compute, in plain words: marks, rewrites. -/
import Derived.Test.YtnooginekcnflaaSvR
namespace Go.Proofs.Ytnooginekcnflaa.Sv
open Go Go.Sv
set_option linter.unusedVariables false
set_option linter.unusedSimpArgs false

/-- An atom, refused. -/
def rf (t : Nd) : List Nd := [(6, ByteArray.empty, 0), t, (3, ByteArray.empty, 0)]
theorem refused (t : Nd) : Evt (fun k => f20 k t) (rf t) := by
  refine Evt.succ ?_
  simp only [f20_eq]
  exact Evt.ret _

theorem mark_at (xs : List Nd) (hx : xs.length ≤ 300000) (i : Nat) (hi : i < xs.length) (h1 : xs[i].1 = 1) : Evt (fun k => f14 k xs (i : Int)) (xs.take i ++ (rf xs[i] ++ xs.drop (i + 1))) := by
  refine Evt.succ ?_
  have a1 : decide ((i : Int) < 0) = false := by simp
  have a2 : decide ((i : Int) ≥ (xs.length : Int)) = false := by simp; omega
  have hrd : rd (.pair (.int .i64) (.pair .str (.int .i64))) xs (i : Int) = xs[i] := rd_nat hi
  have a3 : (xs[i].1 != 1) = false := by simp [h1]
  have hw : IntKind.wrap .i64 ((i : Int) + 1) = ((i + 1 : Nat) : Int) := wrap_succ (by omega)
  simp only [f14_eq, a1, a2, cond_false, idxOk_nat hi, cond_true, hrd, a3, cutOk_zero (show i ≤ xs.length by omega), hw]
  refine Evt.bind (refused _) ?_
  have hc : cutOk ((i + 1 : Nat) : Int) (xs.length : Int) xs.length = true := cutOk_nat (by omega) (Nat.le_refl _)
  simp only [hc, cond_true, cut_zero, cut_end]
  have ht : total [xs.take i, rf xs[i], xs.drop (i + 1)] ≤ 1000000 := by simp [total, rf]; omega
  have := concat [xs.take i, rf xs[i], xs.drop (i + 1)] ht (by simp)
  refine Evt.bind this ?_
  simp only [List.flatten_cons, List.flatten_nil, List.append_nil]
  exact Evt.ret _

/-! ### names -/
def inN (names : List ByteArray) (nm : ByteArray) : Bool := names.any fun s => nm.toList == s.toList
theorem index_loop (names : List ByteArray) (hn : names.length ≤ 1000000) (nm : ByteArray) (y4 : Int) : ∀ (d i : Nat), i + d = names.length → ∃ r, EvL (fun k n => l27_0 k n names nm y4 (names.length : Int) (i : Int)) r ∧ (inN (names.drop i) nm = true → ∃ j : Nat, r = (1, (j : Int))) ∧ (inN (names.drop i) nm = false → r = (0, y4))
  | 0, i, h => by
    have h1 : names.drop i = [] := List.drop_eq_nil_of_le (by omega)
    have h2 : decide ((i : Int) < (names.length : Int)) = false := by simp; omega
    refine ⟨(0, y4), EvL.succ ?_, fun h => ?_, fun _ => rfl⟩
    · simp only [l27_0_eq, h2, cond_false]
      exact EvL.ret _
    · rw [h1] at h; cases h
  | d + 1, i, h => by
    have hi : i < names.length := by omega
    have h1 : names.drop i = names[i] :: names.drop (i + 1) := List.drop_eq_getElem_cons hi
    have h2 : decide ((i : Int) < (names.length : Int)) = true := by simp; omega
    have hrd : rd .str names (i : Int) = names[i] := rd_nat hi
    cases hc : (nm.toList == names[i].toList) with
    | true =>
      refine ⟨(1, (i : Int)), EvL.succ ?_, fun _ => ⟨i, rfl⟩, fun h => ?_⟩
      · simp only [l27_0_eq, h2, cond_true, idxOk_nat hi, hrd, hc]
        exact EvL.ret _
      · rw [h1] at h
        simp only [inN, List.any_cons, hc, Bool.true_or] at h
        cases h
    | false =>
      obtain ⟨r, hr, h3, h4⟩ := index_loop names hn nm y4 d (i + 1) (by omega)
      have he : inN (names.drop i) nm = inN (names.drop (i + 1)) nm := by rw [h1]; show ((nm.toList == names[i].toList) || _) = _; rw [hc]; rfl
      refine ⟨r, EvL.succ ?_, by rw [he]; exact h3, by rw [he]; exact h4⟩
      simp only [l27_0_eq, h2, cond_true, idxOk_nat hi, hrd, hc, cond_false, wrap_succ (show i < 9223372036854775807 by omega)]
      exact hr

theorem contains (names : List ByteArray) (hn : names.length ≤ 1000000) (nm : ByteArray) : Evt (fun k => f19 k names nm) (inN names nm) := by
  obtain ⟨r, hr, h1, h2⟩ := index_loop names hn nm 0 names.length 0 (by omega)
  rw [List.drop_zero] at h1 h2
  refine Evt.succ ?_
  simp only [f19_eq]
  have hf : Evt (fun k => f27 k names nm) (bif Nat.beq r.1 0 then -1 else r.2) := by
    refine Evt.succ ?_
    simp only [f27_eq]
    refine Evt.bind hr.diag ?_
    cases Nat.beq r.1 0 <;> exact Evt.ret _
  refine Evt.bind hf ?_
  cases hc : inN names nm with
  | true =>
    obtain ⟨j, rfl⟩ := h1 hc
    have : decide ((bif Nat.beq 1 0 then (-1 : Int) else (j : Int)) ≥ 0) = true := by
      show decide ((j : Int) ≥ 0) = true
      simp
    simp only [this]
    exact Evt.ret _
  | false =>
    rw [h2 hc]
    exact Evt.ret _

/-! ### rewrites -/
def rw1 (names : List ByteArray) (t : Nd) : List Nd := bif (t.1 == 1) && inN names t.2.1 then rf t else [t]
def rwL (names : List ByteArray) : List Nd → List Nd
  | [] => []
  | t :: ts => rw1 names t ++ rwL names ts
theorem rw1_len (names : List ByteArray) (t : Nd) : (rw1 names t).length ≤ 3 := by
  unfold rw1
  cases (t.1 == 1) && inN names t.2.1 <;> simp [rf]
theorem rwL_len (names : List ByteArray) : ∀ xs, (rwL names xs).length ≤ 3 * xs.length
  | [] => by simp [rwL]
  | t :: ts => by
    have h1 := rw1_len names t
    have h2 := rwL_len names ts
    simp [rwL]; omega

theorem rewrite_loop (names : List ByteArray) (hn : names.length ≤ 1000000) (xs : List Nd) (hx : xs.length ≤ 100000) (y4 : List Nd) : ∀ (d i : Nat) (acc : List Nd), i + d = xs.length → acc.length ≤ 3 * i →
    EvL (fun k n => l9_1000 k n xs names y4 acc (i : Int)) (0, acc ++ rwL names (xs.drop i))
  | 0, i, acc, h, ha => by
    refine EvL.succ ?_
    have h1 : xs.drop i = [] := List.drop_eq_nil_of_le (by omega)
    have h2 : decide ((i : Int) ≥ (xs.length : Int)) = true := by simp; omega
    simp only [l9_1000_eq, h2, cond_true, h1, rwL, List.append_nil]
    exact EvL.ret _
  | d + 1, i, acc, h, ha => by
    refine EvL.succ ?_
    have hi : i < xs.length := by omega
    have h1 : xs.drop i = xs[i] :: xs.drop (i + 1) := List.drop_eq_getElem_cons hi
    have h2 : decide ((i : Int) ≥ (xs.length : Int)) = false := by simp; omega
    have hrd : rd (.pair (.int .i64) (.pair .str (.int .i64))) xs (i : Int) = xs[i] := rd_nat hi
    have hr1 : roomOk (acc.length + 1) 32 = true := roomOk_of (by omega)
    have hr3 : roomOk (acc.length + (rf xs[i]).length) 32 = true := roomOk_of (by simp [rf]; omega)
    have hw : IntKind.wrap .i64 ((i : Int) + 1) = ((i + 1 : Nat) : Int) := wrap_succ (by omega)
    have ih1 := rewrite_loop names hn xs hx y4 d (i + 1) (acc ++ [xs[i]]) (by omega) (by simp; omega)
    have ih3 := rewrite_loop names hn xs hx y4 d (i + 1) (acc ++ rf xs[i]) (by omega) (by simp [rf]; omega)
    simp only [l9_1000_eq, h2, cond_false, idxOk_nat hi, cond_true, hrd, hr1, hw, h1, rwL, rw1]
    cases hop : (xs[i].1 == 1) with
    | false =>
      simp only [cond_false, Bool.false_and]
      rw [List.append_assoc] at ih1; exact ih1
    | true =>
      simp only [cond_true, Bool.true_and]
      refine EvL.bind (contains names hn _) ?_
      cases inN names xs[i].2.1 with
      | false =>
        simp only [cond_false]
        rw [List.append_assoc] at ih1; exact ih1
      | true =>
        simp only [cond_true]
        refine EvL.bind (refused _) ?_
        simp only [hr3, cond_true]
        rw [List.append_assoc] at ih3; exact ih3

theorem rewrite (names : List ByteArray) (hn : names.length ≤ 1000000) (xs : List Nd) (hx : xs.length ≤ 100000) : Evt (fun k => f9 k xs names) (rwL names xs) := by
  refine Evt.succ ?_
  simp only [f9_eq]
  cases xs with
  | nil =>
    have h : decide ((0 : Int) ≥ (([] : List Nd).length : Int)) = true := by simp
    simp only [h, cond_true, rwL]
    exact Evt.ret _
  | cons t ts =>
    have h : decide ((0 : Int) ≥ ((t :: ts).length : Int)) = false := decide_eq_false (by simp only [List.length_cons]; omega)
    have hrd : rd (.pair (.int .i64) (.pair .str (.int .i64))) (t :: ts) 0 = t := rfl
    have hi : idxOk 0 (t :: ts).length = true := idxOk_zero (by simp)
    have go : ∀ acc : List Nd, acc.length ≤ 3 → Evt (fun k => (l9_1000 k k (t :: ts) names [] acc 1).bind fun r7 => some r7.2) (acc ++ rwL names ts) := fun acc ha => by
      have := (rewrite_loop names hn (t :: ts) hx [] ts.length 1 acc (by simp; omega) (by omega)).diag
      exact Evt.bind this (Evt.ret _)
    simp only [h, cond_false, hi, cond_true, hrd, rwL, rw1]
    cases hop : (t.1 == 1) with
    | false =>
      simp only [cond_false, Bool.false_and]
      exact go [t] (by simp)
    | true =>
      simp only [cond_true, Bool.true_and]
      refine Evt.bind (contains names hn _) ?_
      cases inN names t.2.1 with
      | false => simp only [cond_false]; exact go [t] (by simp)
      | true =>
        simp only [cond_true]
        refine Evt.bind (refused _) ?_
        have hr : roomOk (0 + (rf t).length) 32 = true := roomOk_of (by simp [rf])
        simp only [hr, cond_true, List.nil_append]
        exact go (rf t) (by simp [rf])

end Go.Proofs.Ytnooginekcnflaa.Sv
