/- The laws of refusing: what each tells. -/
import Derived.Test.YtnooginekcnflaaW08
import Derived.Test.YtnooginekcnflaaM5
namespace Go.Proofs.Ytnooginekcnflaa.Sv
open Go Go.Sv Go.Rd
set_option linter.unusedVariables false
set_option linter.unusedSimpArgs false

theorem law08_alive_s : law08_alive = some true := by
  have := law08_alive_eq
  exact (law08_alive_lim.iff _).2 ⟨20, by kernel_rfl⟩

theorem law08_few_s (l : List Nd) : law08_few l = some (decide (l.length ≤ 120 ∧ dep l ≤ 24)) := by
  rw [law08_few_eq]
  by_cases h : l.length ≤ 120
  · have e : decide ((l.length : Int) ≤ 120) = true := decide_eq_true (by omega)
    simp only [e, cond_true, ref03_Depth_s l (by omega), Option.bind_some, h, true_and]
    congr 1
    rw [decide_eq_decide]; omega
  · have e : decide ((l.length : Int) ≤ 120) = false := decide_eq_false (by omega)
    simp only [e, cond_false, h, false_and, decide_false]

theorem law08_RefuseRewrites_l2s (y0 : List Nd) (y1 : List ByteArray) (y5 y6 : List Nd) (y7 : Int) (s : ByteArray) (y28 : List ByteArray) (y29 y30 : Int) (ns : List ByteArray) (hn : ns.length ≤ 1000) : ∀ (r : List ByteArray) (i : Nat) (b : Bool), ns.drop i = r → law08_RefuseRewrites_l2 y0 y1 y5 y6 y7 s b y28 y29 y30 ns (ns.length : Int) (i : Int) = some (0, (y0, y1, y5, y6, y7, s, b && !decide (s ∈ r), y28, y29, y30))
  | [], i, b, h => by
    obtain ⟨h1, h2⟩ := drop_nil h
    rw [law08_RefuseRewrites_l2_eq]
    simp only [h2, cond_false]
    simp
  | x :: r, i, b, h => by
    obtain ⟨h1, h2, h3, h4, h5, h6⟩ := drop_cons h
    rw [law08_RefuseRewrites_l2_eq]
    have ih := fun b => law08_RefuseRewrites_l2s y0 y1 y5 y6 y7 s y28 y29 y30 ns hn r (i + 1) b h5
    simp only [h2, h3, h4, cond_true, str_eq, w_succ (show i < 9223372036854775807 by omega), ih]
    cases b
    · simp
    · by_cases e : x = s
      · simp [e]
      · simp [e, Ne.symm e]

theorem law08_RefuseRewrites_l0s (l : List Nd) (ns : List ByteArray) (y5 y6 : List Nd) (hl : l.length ≤ 120) (hn : ns.length ≤ 50) : ∀ (r : List ByteArray) (i : Nat) (n : Nat), ns.drop i = r → n = l.countP (hit (ns.take i)) → law08_RefuseRewrites_l0 l ns y5 y6 (n : Int) ns (ns.length : Int) (i : Int) = some (0, (l, ns, y5, y6, ((l.countP (hit ns) : Nat) : Int)))
  | [], i, n, h, hc => by
    obtain ⟨h1, h2⟩ := drop_nil h
    rw [law08_RefuseRewrites_l0_eq]
    rw [List.take_of_length_le h1] at hc
    simp only [h2, cond_false, hc]
  | x :: r, i, n, h, hc => by
    obtain ⟨h1, h2, h3, h4, h5, h6⟩ := drop_cons h
    rw [law08_RefuseRewrites_l0_eq]
    have hlen : (ns.take i).length = i := by rw [List.length_take]; omega
    have hl2 := law08_RefuseRewrites_l2s l ns y5 y6 (n : Int) x ns (ns.length : Int) (i : Int) (ns.take i) (by omega) (ns.take i) 0 true rfl
    rw [Int.natCast_zero] at hl2
    have htake : ns.take (i + 1) = ns.take i ++ [x] := by
      rw [List.take_succ_eq_append_getElem h1]
      have := ix_nat h1
      rw [h4] at this
      rw [← this]
    have hcnt := hit_snoc (ns.take i) x l
    rw [← htake] at hcnt
    have hle : l.countP (isAt x) ≤ l.length := List.countP_le_length ..
    have hle2 : l.countP (hit (ns.take i)) ≤ l.length := List.countP_le_length ..
    simp only [h2, h3, h4, cond_true, cutOk_zero (show i ≤ ns.length by omega), cut_zero, hl2, Option.bind_some, Bool.true_and, refuse_Places_s l _ (by omega), placesR_len, w_succ (show i < 9223372036854775807 by omega)]
    by_cases hm : x ∈ ns.take i
    · rw [if_pos hm] at hcnt
      rw [decide_eq_true hm]
      simp only [Bool.not_true, cond_false]
      exact law08_RefuseRewrites_l0s l ns y5 y6 hl hn r (i + 1) n h5 (by omega)
    · rw [if_neg hm] at hcnt
      rw [decide_eq_false hm]
      have hw : w64 ((n : Int) + ((l.countP (isAt x) : Nat) : Int)) = ((n + l.countP (isAt x) : Nat) : Int) := by rw [w64_id (by omega) (by omega)]; rfl
      simp only [Bool.not_false, cond_true, hw]
      exact law08_RefuseRewrites_l0s l ns y5 y6 hl hn r (i + 1) (n + l.countP (isAt x)) h5 (by omega)

theorem law08_RefuseRewrites_true (l : List Nd) (ns : List ByteArray) (hw : wfRow l) (hw2 : ns.length ≤ maxLen ∧ ∀ x ∈ ns, x.size ≤ maxLen) : law08_RefuseRewrites l ns = some true := by
  rw [law08_RefuseRewrites_eq]
  simp only [law08_few_s, law08_alive_s, Option.bind_some]
  by_cases h : l.length ≤ 120 ∧ dep l ≤ 24
  · have h1 := h.1
    simp only [h, and_self, decide_true, Bool.not_true, cond_false]
    by_cases h50 : ns.length > 50
    · rw [decide_eq_true (show (ns.length : Int) > 50 by omega)]; rfl
    · rw [decide_eq_false (show ¬ (ns.length : Int) > 50 by omega)]
      have hr := rewR_len ns l
      have hle : l.countP (hit ns) ≤ l.length := List.countP_le_length ..
      have hl0 := law08_RefuseRewrites_l0s l ns l (rewR ns l) h1 (by omega) ns 0 0 rfl (by rw [List.take_zero]; symm; rw [List.countP_eq_zero]; intro n _; simp [hit])
      rw [Int.natCast_zero] at hl0
      have e1 : w64 (2 * ((l.countP (hit ns) : Nat) : Int)) = ((2 * l.countP (hit ns) : Nat) : Int) := by rw [w64_id (by omega) (by omega)]; omega
      have e2 : w64 ((l.length : Int) + ((2 * l.countP (hit ns) : Nat) : Int)) = ((rewR ns l).length : Int) := by rw [w64_id (by omega) (by omega), hr]; omega
      simp only [cond_false, room (show (0 + l.length) * 32 ≤ 140737488355328 by omega), cond_true, refuse_Rewrite_s l ns (by omega) (by omega), Option.bind_some, List.nil_append, hl0, ref08_Rewrite_s l ns (by omega) (by omega), ref03_Same_s _ _ (show (rewR ns l).length ≤ 4611686018427387904 by omega), ref03_Same_s l l (by omega), e1, e2, decide_true, beq_self_eq_true]
  · simp only [decide_eq_false h, Bool.not_false, cond_true]

theorem law08_RefuseStrips_true (l : List Nd) (ns : List ByteArray) (hw : wfRow l) (hw2 : ns.length ≤ maxLen ∧ ∀ x ∈ ns, x.size ≤ maxLen) : law08_RefuseStrips l ns = some true := by
  rw [law08_RefuseStrips_eq]
  simp only [law08_few_s, law08_alive_s, Option.bind_some]
  by_cases h : l.length ≤ 120 ∧ dep l ≤ 24
  · have h1 := h.1
    simp only [h, and_self, decide_true, Bool.not_true, cond_false]
    by_cases h50 : ns.length > 50
    · rw [decide_eq_true (show (ns.length : Int) > 50 by omega)]; rfl
    · rw [decide_eq_false (show ¬ (ns.length : Int) > 50 by omega)]
      have hs := stripR_le l
      have hr := rewR_len ns l
      have hle : l.countP (hit ns) ≤ l.length := List.countP_le_length ..
      have hs2 := stripR_le (rewR ns l)
      simp only [cond_false, cond_true, refuse_Strip_s l (by omega), ref08_Strip_s _ l (Nat.le_refl _) (by omega), Option.bind_some, ref03_Same_s _ _ (show (stripR l).length ≤ 4611686018427387904 by omega), decide_true, Bool.not_true, refuse_Rewrite_s l ns (by omega) (by omega), refuse_Strip_s _ (show (rewR ns l).length ≤ 1000000 by omega), ref03_Same_s _ _ (show (stripR (rewR ns l)).length ≤ 4611686018427387904 by omega)]
      by_cases he : stripR l = l
      · simp [he, strip_rew ns l he]
      · simp [he]
  · simp only [decide_eq_false h, Bool.not_false, cond_true]

end Go.Proofs.Ytnooginekcnflaa.Sv
