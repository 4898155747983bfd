/- The pure law of RefuseNone. -/
import Derived.Test.YtnooginekcnflaaSvS
import Derived.Test.YtnooginekcnflaaEvFc
namespace Go.Proofs.Ytnooginekcnflaa.Sv
open Go Go.Sv
set_option linter.unusedVariables false
set_option linter.unusedSimpArgs false

theorem pl_append (a : ByteArray) : ∀ (l m : List Nd) (i : Nat), pl a (l ++ m) i = pl a l i ++ pl a m (i + l.length)
  | [], m, i => by simp [pl]
  | t :: ts, m, i => by
    simp only [List.cons_append, pl, pl_append a ts m (i + 1), List.length_cons]
    rw [show i + 1 + ts.length = i + (ts.length + 1) by omega]
    cases isAt a t <;> simp

/-- Rewritten from s on. -/
def tail (a : ByteArray) (xs : List Nd) (s : Nat) : List Nd := xs.take s ++ rwL [a] (xs.drop s)

theorem rw1_at (a : ByteArray) (t : Nd) : rw1 [a] t = bif isAt a t then rf t else [t] := by
  unfold rw1 isAt inN
  simp only [List.any_cons, List.any_nil, Bool.or_false]

theorem nones_loop (a : ByteArray) (xs : List Nd) (hx : xs.length ≤ 120) : ∀ (s : Nat), s ≤ xs.length → EvL (fun k n => l6_0 k n xs a (tail a xs s) (pl a xs 0) ((pl a xs 0).length : Int) ((pl a (xs.drop s) s).length : Int)) (0, (xs, a, rwL [a] xs))
  | 0, _ => by
    refine EvL.succ ?_
    have h2 : decide (((pl a xs 0).length : Int) < ((pl a xs 0).length : Int)) = false := by simp
    simp only [l6_0_eq, tail, List.take_zero, List.drop_zero, List.nil_append, h2, cond_false]
    exact EvL.ret _
  | s + 1, hs => by
    have ih := nones_loop a xs hx s (by omega)
    have hi : s < xs.length := by omega
    have h1 : xs.drop s = xs[s] :: xs.drop (s + 1) := List.drop_eq_getElem_cons hi
    have ht : xs.take (s + 1) = xs.take s ++ [xs[s]] := by rw [List.take_succ_eq_append_getElem hi]
    have hp : pl a (xs.drop s) s = bif isAt a xs[s] then (s : Int) :: pl a (xs.drop (s + 1)) (s + 1) else pl a (xs.drop (s + 1)) (s + 1) := by rw [h1]; rfl
    have hr : rwL [a] (xs.drop s) = rw1 [a] xs[s] ++ rwL [a] (xs.drop (s + 1)) := by rw [h1]; rfl
    cases hat : isAt a xs[s] with
    | false =>
      have e1 : tail a xs (s + 1) = tail a xs s := by
        unfold tail
        rw [ht, hr, rw1_at, hat, List.append_assoc]; rfl
      rw [hat] at hp
      simp only [cond_false] at hp
      rw [e1, ← hp]
      exact ih
    | true =>
      rw [hat] at hp
      simp only [cond_true] at hp
      have hall : pl a xs 0 = pl a (xs.take s) 0 ++ ((s : Int) :: pl a (xs.drop (s + 1)) (s + 1)) := by
        have := pl_append a (xs.take s) (xs.drop s) 0
        rw [List.take_append_drop, List.length_take, Nat.zero_add, show min s xs.length = s by omega, hp] at this
        exact this
      have hlen : (pl a xs 0).length = (pl a (xs.take s) 0).length + ((pl a (xs.drop (s + 1)) (s + 1)).length + 1) := by rw [hall]; simp
      have hl2 := pl_len a xs 0
      generalize hc : (pl a (xs.drop (s + 1)) (s + 1)).length = c at hlen
      generalize hj : (pl a (xs.take s) 0).length = j at hlen
      refine EvL.succ ?_
      have h2 : decide ((c : Int) < ((pl a xs 0).length : Int)) = true := by simp; omega
      have hw : IntKind.wrap .i64 ((IntKind.wrap .i64 (((pl a xs 0).length : Int) - 1)) - (c : Int)) = (j : Int) := by
        rw [wrap_small (n := ((pl a xs 0).length : Int) - 1) (by omega) (by omega), wrap_small (by omega) (by omega)]; omega
      have hjl : j < (pl a xs 0).length := by omega
      have hrd : rd (.int .i64) (pl a xs 0) (j : Int) = (s : Int) := by
        rw [rd_nat (u := .int .i64) hjl]
        have : (pl a xs 0)[j]? = some (s : Int) := by rw [hall, List.getElem?_append_right (by omega), hj]; simp
        rw [List.getElem?_eq_getElem hjl] at this
        exact Option.some.inj this
      have hrl := rwL_len [a] (xs.drop (s + 1))
      rw [List.length_drop] at hrl
      have htl : (xs.take (s + 1)).length = s + 1 := by rw [List.length_take]; omega
      have hTl : (tail a xs (s + 1)).length ≤ 300000 := by unfold tail; rw [List.length_append, htl]; omega
      have hTi : s < (tail a xs (s + 1)).length := by unfold tail; rw [List.length_append, htl]; omega
      have hTg : (tail a xs (s + 1))[s] = xs[s] := by
        have : (tail a xs (s + 1))[s]? = some xs[s] := by
          unfold tail
          rw [List.getElem?_append_left (by omega), List.getElem?_take, if_pos (by omega)]
          exact List.getElem?_eq_getElem hi
        rw [List.getElem?_eq_getElem hTi] at this
        exact Option.some.inj this
      have hop : xs[s].1 = 1 := by
        unfold isAt at hat
        simp only [Bool.and_eq_true, beq_iff_eq] at hat
        exact hat.1
      have hm := mark_at (tail a xs (s + 1)) hTl s hTi (by rw [hTg]; exact hop)
      rw [hTg] at hm
      have hT : (tail a xs (s + 1)).take s ++ (rf xs[s] ++ (tail a xs (s + 1)).drop (s + 1)) = tail a xs s := by
        unfold tail
        have e1 : (xs.take (s + 1) ++ rwL [a] (xs.drop (s + 1))).take s = xs.take s := by
          rw [List.take_append_of_le_length (by omega), List.take_take]; congr 1; omega
        have e2 : (xs.take (s + 1) ++ rwL [a] (xs.drop (s + 1))).drop (s + 1) = rwL [a] (xs.drop (s + 1)) := by
          rw [List.drop_append_of_le_length (by omega), List.drop_eq_nil_of_le (by omega)]; rfl
        rw [e1, e2, hr, rw1_at, hat]; rfl
      rw [hT] at hm
      simp only [l6_0_eq, h2, cond_true, hw, idxOk_nat hjl, hrd]
      refine EvL.bind hm ?_
      rw [hp] at ih
      simp only [List.length_cons, hc] at ih
      simp only [wrap_succ (show c < 9223372036854775807 by omega)]
      exact ih

theorem pureRefuseNone (y0 : (Ty.slice 38 Sv.T38).den) (y1 : Ty.str.den) (f0 : (Ty.slice 38 Sv.T38).wf y0) (f1 : Ty.str.wf y1) : ∃ k, f6 k y0 y1 = some true := by
  refine Evt.ex (p := fun k => f6 k y0 y1) ?_
  obtain ⟨b, hb, hlen⟩ := few y0
  refine Evt.succ ?_
  simp only [f6_eq]
  refine Evt.bind hb ?_
  cases b with
  | false =>
    simp only [Bool.not_false, cond_true]
    exact Evt.bind alive (Evt.ret _)
  | true =>
    have hx := hlen rfl
    simp only [Bool.not_true, cond_false]
    refine Evt.bind (places y1 y0 (Nat.le_trans hx (by decide))) ?_
    have hl := (nones_loop y1 y0 hx y0.length (Nat.le_refl _)).diag
    have e1 : tail y1 y0 y0.length = y0 := by simp [tail, rwL]
    have e2 : (pl y1 (List.drop y0.length y0) y0.length).length = 0 := by rw [List.drop_length]; rfl
    rw [e1, e2] at hl
    refine Evt.bind hl ?_
    refine Evt.bind alive ?_
    simp only [cond_true]
    refine Evt.bind (rewrite [y1] (by simp) y0 (Nat.le_trans hx (by decide))) ?_
    have hrl := rwL_len [y1] y0
    refine Evt.bind (same_f _ _ (Nat.le_trans hrl (by omega))) ?_
    rw [same_iff.2 rfl]
    exact Evt.ret _

end Go.Proofs.Ytnooginekcnflaa.Sv
