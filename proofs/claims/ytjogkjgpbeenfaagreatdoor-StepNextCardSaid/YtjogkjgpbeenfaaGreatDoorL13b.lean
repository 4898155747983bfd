/- StepLess: what it tells. -/
import Derived.Test.YtjogkjgpbeenfaaGreatDoorL13
import Derived.Test.YtjogkjgpbeenfaaGreatDoorM5
namespace Go.Proofs.YtjogkjgpbeenfaaGreatDoor.Sv
open Go Go.Sv Go.Rd
set_option linter.unusedVariables false
set_option linter.unusedSimpArgs false
/-- How many nodes wait. -/
def cntW (l : List Nd) : Nat := l.countP fun n => waitK n.1
def wW (n : Nd) : Nat := if waitK n.1 = true then 1 else 0
theorem cntW_sum [Dfr] (l : List Nd) : cntW l = (l.map wW).sum := by
  induction l with
  | nil => rfl
  | cons n r ih =>
    unfold cntW at ih ⊢
    rw [List.countP_cons, List.map_cons, List.sum_cons, ← ih]
    exact Nat.add_comm _ _
theorem cntW_app [Dfr] (a b : List Nd) : cntW (a ++ b) = cntW a + cntW b := List.countP_append
theorem cntW_cons [Dfr] (n : Nd) (l : List Nd) : cntW (n :: l) = wW n + cntW l := by
  rw [cntW_sum, cntW_sum, List.map_cons, List.sum_cons]
theorem light_wW [Dfr] : Tm.Light wW := ⟨rfl, fun _ => rfl, fun _ => rfl, rfl, rfl⟩
/-- Settling makes no node wait. -/
theorem cntW_settle [Dfr] (x : List Nd) : cntW (settleR x) ≤ cntW x := by
  rcases settleR_cases x with h | ⟨m, rfl, _, _, _, h, _⟩
  · rw [h]; exact Nat.zero_le _
  · rw [h, cntW_sum, cntW_sum]
    exact Tm.wt_st wW light_wW m
/-- What stands there behind a move waits less. -/
theorem made_less [Dfr] {S : T} {r : List Nd} {how : Int} (h : S.ok) (hw : waitK S.hd.1 = true) (h6 : how = 2 ∨ how = 3 → S.hd.1 = 6) : cntW (madeR (S.row ++ r) how) < cntW S.row := by
  have hk : kidsR (S.row ++ r) = S.kids.map T.row := by unfold kidsR; rw [P_row h]
  have hx : ix (S.row ++ r) 0 = S.hd := by cases S <;> rfl
  have hS : cntW S.row = 1 + cntW (kidsR (S.row ++ r)).flatten := by
    have w1 : wW S.hd = 1 := by unfold wW; rw [if_pos hw]
    rw [hk]
    cases S with
    | n0 n => rw [show (T.n0 n).row = [n] from rfl, cntW_cons, show wW n = 1 from w1]; rfl
    | n1 n a => rw [show (T.n1 n a).row = n :: a.row from rfl, cntW_cons, show wW n = 1 from w1]; simp [T.kids]
    | n2 n a b => rw [show (T.n2 n a b).row = n :: (a.row ++ b.row) from rfl, cntW_cons, show wW n = 1 from w1]; simp [T.kids]
  have hpart : ∀ i : Nat, i < (kidsR (S.row ++ r)).length → cntW (ix (kidsR (S.row ++ r)) (i : Int)) ≤ cntW (kidsR (S.row ++ r)).flatten := fun i hi => by
    rw [ix_nat hi]
    exact (List.sublist_flatten_of_mem (List.getElem_mem hi)).countP_le
  unfold madeR
  split
  · rename_i h2
    have := hpart 0 (by rw [kids_two h (h6 (.inl h2))]; omega)
    rw [Int.natCast_zero] at this
    omega
  · split
    · rename_i h3
      have := hpart 1 (by rw [kids_two h (h6 (.inr h3))]; omega)
      have e : ((1 : Nat) : Int) = 1 := rfl
      rw [e] at this
      omega
    · split
      · split
        · rw [show cntW [(14, ByteArray.empty, 3), (2, ByteArray.empty, 0)] = 0 from rfl]; omega
        · rw [show cntW [(11, ByteArray.empty, 3)] = 0 from rfl]; omega
      · split
        · rw [cntW_cons, show wW (12, ByteArray.empty, 0) = 0 from rfl]; omega
        · rw [show cntW [(11, ByteArray.empty, 1)] = 0 from rfl]; omega
theorem next_less [Dfr] {l : List Nd} {m : Mv} (hm : m ∈ enL l) : (nextL l m).2.2 = 0 ∧ cntW (nextL l m).1 < cntW l ∧ (nextL l m).1.length ≤ 1000000 ∧ (decide ((nextL l m).2.1 = ⟨#[]⟩) = !decide (m.2 = 1)) := by
  obtain ⟨hs, t, k0, ht, hm1, hk0, hkw, hw, hin⟩ := en_at hm
  obtain ⟨k, S, r, h1, h2, h3, h4, h5, h6⟩ := en_sub hm
  obtain rfl : k0 = k := by omega
  obtain ⟨n, hn, hfi, hz, _, _, _, _⟩ := set_tree hs
  have hlen : l.length ≤ 200 := by rw [hn, Tm.len_row]; exact hz
  have hmade := made_less (r := r) (how := m.2) h3 (by rw [h5]; exact hw) h6
  rw [← h4] at hmade
  have hml := made_len (l.drop k0) m.2 (fun h => by rw [h4]; exact kids_two h3 (h6 h))
  have hpl := putR_len l m.1 (madeR (l.drop k0) m.2)
  have hdl : (l.drop k0).length = l.length - k0 := List.length_drop
  have hset := settleR_len (putR l m.1 (madeR (l.drop k0) m.2))
  have hput : cntW (putR l m.1 (madeR (l.drop k0) m.2)) < cntW l := by
    have hsz : sz (l.drop k0) = S.size := by unfold sz; rw [h4, P_row h3]
    have hpos := T.size_pos' S
    unfold putR
    rw [if_pos ⟨by omega, by omega, by rw [h1, Int.toNat_natCast, hsz]; omega⟩, h1, Int.toNat_natCast, hsz, cntW_app, cntW_app]
    have e : l = l.take k0 ++ (S.row ++ r) := by rw [← h4, List.take_append_drop]
    have e2 : l.drop (k0 + S.size) = r := by rw [← List.drop_drop, h4, ← T.len_row S, List.drop_left]
    have e3 : cntW l = cntW (l.take k0) + (cntW S.row + cntW r) := by
      conv => lhs; rw [e]
      rw [cntW_app, cntW_app]
    rw [e2, e3]
    omega
  unfold nextL
  rw [if_pos hm, h1, Int.toNat_natCast, ← h1]
  refine ⟨rfl, Nat.lt_of_le_of_lt (cntW_settle _) hput, by show (settleR (putR l m.1 (madeR (l.drop k0) m.2))).length ≤ 1000000; omega, ?_⟩
  have hx : ix (l.drop k0) 0 = l.getD k0 default := by
    rw [h4, ← h5]; cases S <;> rfl
  have hr : right (l.getD k0 default) = true := by
    refine right_of_fine hfi _ ?_
    rw [← hn, List.getD_eq_getElem?_getD, List.getElem?_eq_getElem hk0]
    exact List.getElem_mem hk0
  show decide ((ix (l.drop k0) 0).2.1 = ⟨#[]⟩) = _
  rw [hx]
  generalize l.getD k0 default = q at hr hw hin
  have hq : q.1 = 1 ∨ q.1 = 6 ∨ q.1 = 4 ∨ q.1 = 10 := by unfold waitK at hw; exact of_decide_eq_true hw
  have hm2 : m.2 = 1 ↔ q.1 = 1 := by
    unfold mvsAt at hin
    constructor
    · intro h
      by_cases e : q.1 = 1
      · exact e
      · rw [if_neg e] at hin
        split at hin
        · simp only [List.mem_cons, List.not_mem_nil, or_false] at hin
          rcases hin with hin | hin <;> rw [hin] at h <;> simp at h
        · simp only [List.mem_cons] at hin
          rcases hin with hin | hin
          · rw [hin] at h; simp at h
          · split at hin
            · simp at hin; rw [hin] at h; simp at h
            · cases hin
    · intro e
      rw [if_pos e] at hin
      simp at hin; rw [hin]
  by_cases e : q.1 = 1
  · rw [decide_eq_true (hm2.2 e)]
    unfold right at hr
    rw [if_pos e] at hr
    simp only [Bool.and_eq_true, nameB, decide_eq_true_eq] at hr
    refine decide_eq_false fun h => ?_
    rw [h] at hr
    exact absurd hr.1.1 (by decide)
  · rw [decide_eq_false (fun h => e (hm2.1 h))]
    unfold right at hr
    rw [if_neg e, if_neg (by omega)] at hr
    simp only [Bool.and_eq_true, decide_eq_true_eq] at hr
    exact decide_eq_true hr.2.1
end Go.Proofs.YtjogkjgpbeenfaaGreatDoor.Sv
