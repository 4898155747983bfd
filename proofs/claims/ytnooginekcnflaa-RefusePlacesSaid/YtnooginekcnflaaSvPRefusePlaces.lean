/- The pure law of RefusePlaces. -/
import Derived.Test.YtnooginekcnflaaSvS
import Derived.Test.YtnooginekcnflaaEvFc
namespace Go.Proofs.Ytnooginekcnflaa.Sv
open Go Go.Sv
set_option linter.unusedVariables false
set_option linter.unusedSimpArgs false

/-- The same places, twice. -/
theorem places_same (xs : List Nd) (x2 : Int) (p : List Int) (hp : p.length ≤ 1000000) : ∀ (d i : Nat), i + d = p.length → EvL (fun k n => l4_0 k n xs x2 false p p (p.length : Int) (i : Int)) (0, (xs, x2, false))
  | 0, i, h => by
    refine EvL.succ ?_
    have h2 : decide ((i : Int) < (p.length : Int)) = false := decide_eq_false (by omega)
    simp only [l4_0_eq, h2, cond_false]
    exact EvL.ret _
  | d + 1, i, h => by
    refine EvL.succ ?_
    have hi : i < p.length := by omega
    have h2 : decide ((i : Int) < (p.length : Int)) = true := decide_eq_true (by omega)
    have hne : (rd (.int .i64) p (i : Int) != rd (.int .i64) p (i : Int)) = false := by simp
    simp only [l4_0_eq, h2, cond_true, idxOk_nat hi, hne, cond_false, wrap_succ (show i < 9223372036854775807 by omega)]
    exact places_same xs x2 p hp d (i + 1) (by omega)

theorem refused2 (t : Nd) : Evt (fun k => f22 k t) (rf t) := by
  refine Evt.succ ?_
  simp only [f22_eq]
  exact Evt.ret _

/-- Marked at one place. -/
def mk (y1 : Int) : List Nd → Nat → List Nd
  | [], _ => []
  | t :: ts, i => (bif ((i : Int) == y1) && (t.1 == 1) then rf t else [t]) ++ mk y1 ts (i + 1)

theorem mark2_loop (xs : List Nd) (hx : xs.length ≤ 100000) (y1 : Int) : ∀ (d i : Nat) (acc : List Nd), i + d = xs.length → acc.length ≤ 3 * i → EvL (fun k n => l15_0 k n xs y1 acc (i : Int)) (0, acc ++ mk y1 (xs.drop i) i)
  | 0, i, acc, h, ha => by
    refine EvL.succ ?_
    have h1 : xs.drop i = [] := List.drop_eq_nil_of_le (by omega)
    have h2 : decide ((i : Int) < (xs.length : Int)) = false := decide_eq_false (by omega)
    simp only [l15_0_eq, h2, cond_false, h1, mk, List.append_nil]
    exact EvL.ret _
  | d + 1, i, acc, h, ha => by
    refine EvL.succ ?_
    have hi : i < xs.length := by omega
    have h1 : xs.drop i = xs[i] :: xs.drop (i + 1) := List.drop_eq_getElem_cons hi
    have h2 : decide ((i : Int) < (xs.length : Int)) = true := decide_eq_true (by omega)
    have hrd : rd (.pair (.int .i64) (.pair .str (.int .i64))) xs (i : Int) = xs[i] := rd_nat hi
    have hr1 : roomOk (acc.length + 1) 32 = true := roomOk_of (by omega)
    have hr3 : roomOk (acc.length + (rf xs[i]).length) 32 = true := roomOk_of (by simp [rf]; omega)
    have ih1 := mark2_loop xs hx y1 d (i + 1) (acc ++ [xs[i]]) (by omega) (by simp; omega)
    have ih3 := mark2_loop xs hx y1 d (i + 1) (acc ++ rf xs[i]) (by omega) (by simp [rf]; omega)
    rw [List.append_assoc] at ih1 ih3
    simp only [l15_0_eq, h2, cond_true, idxOk_nat hi, hrd, hr1, wrap_succ (show i < 9223372036854775807 by omega), h1, mk]
    cases ((i : Int) == y1) with
    | false => simp only [cond_false, Bool.false_and]; exact ih1
    | true =>
      simp only [cond_true, Bool.true_and]
      cases (xs[i].1 == 1) with
      | false => simp only [cond_false]; exact ih1
      | true =>
        simp only [cond_true]
        refine EvL.bind (refused2 _) ?_
        simp only [hr3, cond_true]
        exact ih3

theorem mark2 (xs : List Nd) (hx : xs.length ≤ 100000) (y1 : Int) : Evt (fun k => f15 k xs y1) (mk y1 xs 0) := by
  refine Evt.succ ?_
  simp only [f15_eq]
  have := (mark2_loop xs hx y1 xs.length 0 [] (by omega) (by simp)).diag
  exact Evt.bind this (Evt.ret _)

theorem mk_none (y1 : Int) : ∀ (xs : List Nd) (i : Nat), (∀ j : Nat, (h : j < xs.length) → ((i + j : Nat) : Int) = y1 → xs[j].1 ≠ 1) → mk y1 xs i = xs
  | [], i, _ => rfl
  | t :: ts, i, h => by
    have h0 : (((i : Int) == y1) && (t.1 == 1)) = false := by
      cases h1 : ((i : Int) == y1) with
      | false => rfl
      | true =>
        have := h 0 (by simp) (by simpa using h1)
        simpa using this
    simp only [mk, h0, cond_false]
    rw [mk_none y1 ts (i + 1) fun j hj he => by
      have := h (j + 1) (by simp; omega) (by rw [← he]; congr 1; omega)
      simpa using this]
    rfl

theorem mk_at : ∀ (xs : List Nd) (i j : Nat) (h : j < xs.length), xs[j].1 = 1 → mk ((i + j : Nat) : Int) xs i = xs.take j ++ (rf xs[j] ++ xs.drop (j + 1))
  | t :: ts, i, 0, h, h1 => by
    have h0 : (((i : Int) == ((i + 0 : Nat) : Int)) && (t.1 == 1)) = true := by
      have : t.1 = 1 := h1
      simp [this]
    simp only [mk, h0, cond_true]
    rw [mk_none _ ts (i + 1) fun j hj he => by omega]
    rfl
  | t :: ts, i, j + 1, h, h1 => by
    have h0 : (((i : Int) == ((i + (j + 1) : Nat) : Int)) && (t.1 == 1)) = false := by
      have : ((i : Int) == ((i + (j + 1) : Nat) : Int)) = false := by simp; omega
      rw [this]; rfl
    simp only [mk, h0, cond_false]
    have := mk_at ts (i + 1) j (by simpa using h) (by simpa using h1)
    rw [show i + (j + 1) = i + 1 + j by omega, this]
    rfl

theorem mark1 (xs : List Nd) (hx : xs.length ≤ 100000) (y1 : Int) : Evt (fun k => f14 k xs y1) (mk y1 xs 0) := by
  have cl := clone xs (by omega)
  by_cases h0 : y1 < 0
  · have a1 : decide (y1 < 0) = true := decide_eq_true h0
    rw [mk_none y1 xs 0 fun j hj he => by omega]
    refine Evt.succ ?_
    simp only [f14_eq, a1, cond_true]
    exact Evt.bind cl (Evt.ret _)
  · obtain ⟨n, rfl⟩ := Int.eq_ofNat_of_zero_le (show 0 ≤ y1 by omega)
    have a1 : decide ((n : Int) < 0) = false := decide_eq_false h0
    by_cases h1 : n < xs.length
    · by_cases hop : xs[n].1 = 1
      · have := mark_at xs (by omega) n h1 hop
        have e := mk_at xs 0 n h1 hop
        rw [Nat.zero_add] at e
        rw [e]; exact this
      · have a2 : decide ((n : Int) ≥ (xs.length : Int)) = false := decide_eq_false (by omega)
        have hrd : rd (.pair (.int .i64) (.pair .str (.int .i64))) xs (n : Int) = xs[n] := rd_nat h1
        have a3 : (xs[n].1 != 1) = true := by simpa using hop
        rw [mk_none (n : Int) xs 0 fun j hj he => by
          have : j = n := by omega
          subst this; exact hop]
        refine Evt.succ ?_
        simp only [f14_eq, a1, a2, cond_false, idxOk_nat h1, cond_true, hrd, a3]
        exact Evt.bind cl (Evt.ret _)
    · have a2 : decide ((n : Int) ≥ (xs.length : Int)) = true := decide_eq_true (by omega)
      rw [mk_none (n : Int) xs 0 fun j hj he => by omega]
      refine Evt.succ ?_
      simp only [f14_eq, a1, a2, cond_false, cond_true]
      exact Evt.bind cl (Evt.ret _)

theorem mk_len (y1 : Int) : ∀ (xs : List Nd) (i : Nat), (mk y1 xs i).length ≤ 3 * xs.length
  | [], i => by simp [mk]
  | t :: ts, i => by
    have := mk_len y1 ts (i + 1)
    simp only [mk, List.length_append, List.length_cons]
    cases ((i : Int) == y1) && (t.1 == 1) <;> simp [rf] <;> omega

theorem pureRefusePlaces (y0 : (Ty.slice 38 Sv.T38).den) (y1 : Ty.str.den) (y2 : (Ty.int .i64).den) (f0 : (Ty.slice 38 Sv.T38).wf y0) (f1 : Ty.str.wf y1) (f2 : (Ty.int .i64).wf y2) : ∃ k, f4 k y0 y1 y2 = some true := by
  refine Evt.ex (p := fun k => f4 k y0 y1 y2) ?_
  obtain ⟨b, hb, hlen⟩ := few y0
  refine Evt.succ ?_
  simp only [f4_eq]
  refine Evt.bind hb ?_
  cases b with
  | false =>
    simp only [Bool.not_false, cond_true]
    exact Evt.bind alive (Evt.ret _)
  | true =>
    have hx : List.length y0 ≤ 120 := hlen rfl
    simp only [Bool.not_true, cond_false]
    refine Evt.bind (places y1 y0 (Nat.le_trans hx (by decide))) ?_
    refine Evt.bind (places2 y1 y0 (Nat.le_trans hx (by decide))) ?_
    have hpl := pl_len y1 y0 0
    have hne : (((pl y1 y0 0).length : Int) != ((pl y1 y0 0).length : Int)) = false := by simp
    simp only [hne, cond_false]
    have hl := (places_same y0 y2 (pl y1 y0 0) (by omega) (pl y1 y0 0).length 0 (by omega)).diag
    refine Evt.bind hl ?_
    show Evt (fun k => bif Nat.beq 0 0 then _ else _) _
    simp only [Nat.beq_refl, cond_true]
    refine Evt.bind alive ?_
    simp only [cond_true]
    refine Evt.bind (mark1 y0 (Nat.le_trans hx (by decide)) y2) ?_
    refine Evt.bind (mark2 y0 (Nat.le_trans hx (by decide)) y2) ?_
    have hml := mk_len y2 y0 0
    refine Evt.bind (same_f _ _ (Nat.le_trans hml (by omega))) ?_
    rw [same_iff.2 rfl]
    exact Evt.ret _

end Go.Proofs.Ytnooginekcnflaa.Sv
