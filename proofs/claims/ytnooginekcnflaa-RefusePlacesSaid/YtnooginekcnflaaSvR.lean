/- What the functions of the Refuse seat compute, in plain words: marks, rewrites, the few. -/
import Derived.Test.YtnooginekcnflaaSvQ
namespace Go.Proofs.Ytnooginekcnflaa.Sv
open Go Go.Sv
set_option linter.unusedVariables false
set_option linter.unusedSimpArgs false

/-! ### how deep: it comes to an end -/
def ar (x : Int) : Int := if x = 1 then 0 else if x = 2 then 0 else if x = 3 then 0 else if x = 4 then 0 else if x = 11 then 0 else if x = 9 then 1 else if x = 14 then 1 else if x = 5 then 2 else if x = 6 then 2 else if x = 7 then 2 else if x = 8 then 2 else if x = 10 then 2 else if x = 12 then 2 else if x = 13 then 2 else -1
theorem ar_le (x : Int) : ar x ≤ 2 := by
  unfold ar
  repeat' split
  all_goals omega
theorem arity (x : Int) : Evt (fun k => f29 k x) (ar x) := by
  refine Evt.succ ?_
  refine ⟨0, fun k _ => ?_⟩
  simp only [f29_eq, ar, Bool.cond_eq_ite, beq_iff_eq, apply_ite some]

theorem walk_loop (xs : List Nd) (hx : xs.length ≤ 1000000) (i : Nat) (hi : i < xs.length) (ih : ∀ j : Nat, i < j → ∃ p d, Evt (fun k => f26 k xs (j : Int)) (p, d) ∧ (p < 0 ∨ ∃ q : Nat, p = q ∧ j < q ∧ q ≤ xs.length)) (y4 y5 : Int) :
    ∀ (m c j : Nat) (dep : Int), ar xs[i].1 ≤ c + m → i < j → (c : Int) ≤ 2 → ∃ r, EvL (fun k n => l26_0 k n xs (i : Int) y4 y5 (j : Int) dep (c : Int)) r ∧ (r.1 = 0 → ∃ q : Nat, r.2.2.2.1 = q ∧ j ≤ q ∧ (q ≤ xs.length ∨ q = j)) ∧ (Nat.beq r.1 0 = false → r.2.1 < 0)
  | 0, c, j, dep, hm, hj, hc => by
    refine ⟨(0, (y4, y5, (j : Int), dep)), EvL.succ ?_, fun _ => ⟨j, rfl, Nat.le_refl _, .inr rfl⟩, fun h => by cases h⟩
    have hrd : rd (.pair (.int .i64) (.pair .str (.int .i64))) xs (i : Int) = xs[i] := rd_nat hi
    have h1 : decide ((c : Int) < ar xs[i].1) = false := by simp; omega
    simp only [l26_0_eq, idxOk_nat hi, cond_true, hrd]
    refine EvL.bind (arity _) ?_
    simp only [h1, cond_false]
    exact EvL.ret _
  | m + 1, c, j, dep, hm, hj, hc => by
    have hrd : rd (.pair (.int .i64) (.pair .str (.int .i64))) xs (i : Int) = xs[i] := rd_nat hi
    by_cases h1 : (c : Int) < ar xs[i].1
    · have h1' : decide ((c : Int) < ar xs[i].1) = true := by simpa using h1
      obtain ⟨p, d, hp, hpos⟩ := ih j hj
      have hle := ar_le xs[i].1
      rcases hpos with hpos | ⟨q, rfl, hq1, hq2⟩
      · refine ⟨(1, (-1, 0, (j : Int), dep)), EvL.succ ?_, fun h => (by cases h), fun _ => (by simp)⟩
        simp only [l26_0_eq, idxOk_nat hi, cond_true, hrd]
        refine EvL.bind (arity _) ?_
        simp only [h1', cond_true]
        refine EvL.bind hp ?_
        have : decide (p < 0) = true := by simpa using hpos
        simp only [this, cond_true]
        exact EvL.ret _
      · have hw : IntKind.wrap .i64 ((c : Int) + 1) = ((c + 1 : Nat) : Int) := wrap_succ (by omega)
        have step : ∀ dep', ∃ r, EvL (fun k n => l26_0 k n xs (i : Int) y4 y5 (q : Int) dep' ((c + 1 : Nat) : Int)) r ∧ (r.1 = 0 → ∃ q' : Nat, r.2.2.2.1 = q' ∧ q ≤ q' ∧ (q' ≤ xs.length ∨ q' = q)) ∧ (Nat.beq r.1 0 = false → r.2.1 < 0) := fun dep' => walk_loop xs hx i hi ih y4 y5 m (c + 1) q dep' (by omega) (by omega) (by omega)
        have key : ∀ dep', (if d > dep then d else dep) = dep' → ∃ r, EvL (fun k n => l26_0 k n xs (i : Int) y4 y5 (j : Int) dep (c : Int)) r ∧ (r.1 = 0 → ∃ q' : Nat, r.2.2.2.1 = q' ∧ j ≤ q' ∧ (q' ≤ xs.length ∨ q' = j)) ∧ (Nat.beq r.1 0 = false → r.2.1 < 0) := fun dep' hdep => by
          obtain ⟨r, hr, h2, h3⟩ := step dep'
          refine ⟨r, EvL.succ ?_, fun h => ?_, h3⟩
          · simp only [l26_0_eq, idxOk_nat hi, cond_true, hrd]
            refine EvL.bind (arity _) ?_
            simp only [h1', cond_true]
            refine EvL.bind hp ?_
            have h4 : decide ((q : Int) < 0) = false := by simp
            simp only [h4, cond_false, hw]
            by_cases h5 : d > dep
            · have h5' : decide (d > dep) = true := by simpa using h5
              simp only [h5', cond_true]
              rw [if_pos h5] at hdep
              rw [hdep]; exact hr
            · have h5' : decide (d > dep) = false := by simpa using h5
              simp only [h5', cond_false]
              rw [if_neg h5] at hdep
              rw [hdep]; exact hr
          · obtain ⟨q', k1, k2, k3⟩ := h2 h
            exact ⟨q', k1, by omega, .inl (by rcases k3 with k3 | k3 <;> omega)⟩
        exact key _ rfl
    · have h1' : decide ((c : Int) < ar xs[i].1) = false := by simpa using h1
      refine ⟨(0, (y4, y5, (j : Int), dep)), EvL.succ ?_, fun _ => ⟨j, rfl, Nat.le_refl _, .inr rfl⟩, fun h => by cases h⟩
      simp only [l26_0_eq, idxOk_nat hi, cond_true, hrd]
      refine EvL.bind (arity _) ?_
      simp only [h1', cond_false]
      exact EvL.ret _

theorem walk (xs : List Nd) (hx : xs.length ≤ 1000000) : ∀ (n i : Nat), xs.length - i ≤ n → ∃ p d, Evt (fun k => f26 k xs (i : Int)) (p, d) ∧ (p < 0 ∨ ∃ q : Nat, p = q ∧ i < q ∧ q ≤ xs.length)
  | n, i, hn => by
    by_cases hi : i < xs.length
    · cases n with
      | zero => omega
      | succ n =>
        have h0 : decide ((i : Int) ≥ (xs.length : Int)) = false := by simp; omega
        have hrd : rd (.pair (.int .i64) (.pair .str (.int .i64))) xs (i : Int) = xs[i] := rd_nat hi
        by_cases ha : ar xs[i].1 < 0
        · have ha' : decide (ar xs[i].1 < 0) = true := by simpa using ha
          refine ⟨-1, 0, Evt.succ ?_, .inl (by omega)⟩
          simp only [f26_eq, h0, cond_false, idxOk_nat hi, cond_true, hrd]
          refine Evt.bind (arity _) ?_
          simp only [ha', cond_true]
          exact Evt.ret _
        · have ha' : decide (ar xs[i].1 < 0) = false := by simpa using ha
          have hle := ar_le xs[i].1
          obtain ⟨r, hr, h2, h3⟩ := walk_loop xs hx i hi (fun j hj => walk xs hx n j (by omega)) 0 0 2 0 (i + 1) 0 (by omega) (by omega) (by omega)
          have hw : IntKind.wrap .i64 ((i : Int) + 1) = ((i + 1 : Nat) : Int) := wrap_succ (by omega)
          cases hb : Nat.beq r.1 0 with
          | true =>
            obtain ⟨q, k1, k2, k3⟩ := h2 (Nat.eq_of_beq_eq_true hb)
            refine ⟨r.2.2.2.1, IntKind.wrap .i64 (r.2.2.2.2 + 1), Evt.succ ?_, .inr ⟨q, k1, by omega, by rcases k3 with k3 | k3 <;> omega⟩⟩
            simp only [f26_eq, h0, cond_false, idxOk_nat hi, cond_true, hrd]
            refine Evt.bind (arity _) ?_
            simp only [ha', cond_false, hw]
            refine Evt.bind hr.diag ?_
            simp only [hb, cond_true]
            exact Evt.ret _
          | false =>
            refine ⟨r.2.1, r.2.2.1, Evt.succ ?_, .inl (h3 hb)⟩
            simp only [f26_eq, h0, cond_false, idxOk_nat hi, cond_true, hrd]
            refine Evt.bind (arity _) ?_
            simp only [ha', cond_false, hw]
            refine Evt.bind hr.diag ?_
            simp only [hb, cond_false]
            exact Evt.ret _
    · have h0 : decide ((i : Int) ≥ (xs.length : Int)) = true := by simp; omega
      refine ⟨-1, 0, Evt.succ ?_, .inl (by omega)⟩
      simp only [f26_eq, h0, cond_true]
      exact Evt.ret _

/-- Whether there are few: some answer; if so, no more than 120. -/
theorem few (xs : List Nd) : ∃ b, Evt (fun k => f7 k xs) b ∧ (b = true → xs.length ≤ 120) := by
  by_cases h : xs.length ≤ 120
  · obtain ⟨p, d, hp, _⟩ := walk xs (by omega) _ 0 (Nat.le_refl _)
    refine ⟨decide (d ≤ 24), Evt.succ ?_, fun _ => h⟩
    have h1 : decide ((xs.length : Int) ≤ 120) = true := by simp; omega
    simp only [f7_eq, h1, cond_true]
    refine Evt.bind (a := d) (Evt.succ ?_) (Evt.ret _)
    simp only [f18_eq]
    exact Evt.bind hp (Evt.ret _)
  · refine ⟨false, Evt.succ ?_, fun h => by cases h⟩
    have h1 : decide ((xs.length : Int) ≤ 120) = false := by simp; omega
    simp only [f7_eq, h1, cond_false]
    exact Evt.ret _

end Go.Proofs.Ytnooginekcnflaa.Sv
