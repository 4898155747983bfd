/- The laws of meanings: what is told is what the document says. -/
import Derived.Test.YtabhofdbgmdjkaaGreatDoorW07b
import Derived.Test.YtabhofdbgmdjkaaGreatDoorM5
namespace Go.Proofs.YtabhofdbgmdjkaaGreatDoor.Sv
open Go Go.Sv Go.Rd
set_option linter.unusedVariables false
set_option linter.unusedSimpArgs false
theorem law07_few_s [Dfr] (l : List Nd) : law07_few l = some (decide (l.length ≤ 120 ∧ dep l ≤ 24)) := by
  rw [law07_few_eq]
  by_cases h : l.length ≤ 120
  · have e : decide ((l.length : Int) ≤ 120) = true := decide_eq_true (by omega)
    simp only [e, cond_true, ref03_Depth_s l (by omega), Option.bind_some, h, true_and]
    congr 1
    rw [decide_eq_decide]; omega
  · have e : decide ((l.length : Int) ≤ 120) = false := decide_eq_false (by omega)
    simp only [e, cond_false, h, false_and, decide_false]
/-! ### the witness -/
abbrev sA : ByteArray := ⟨#[97]⟩
abbrev sB : ByteArray := ⟨#[98]⟩
abbrev sC : ByteArray := ⟨#[99]⟩
def mP7 : Tm := .pair (.act sA) (.act sB)
def mB7 : Tm := .block (.seq mP7 (.pair .throw .skip))
def mH7 : Tm := .hand (.alt (.act sA) .throw) (.act sC)
theorem lt_AC [Dfr] : cmpB sA sC = .lt := by simp only [cmpL, cmpB, ByteArray.toList_eq]; decide
theorem mem_P7 [Dfr] {x : Qc} : x ∈ mP7.pq ↔ x = (([sA], 1), ([sB], 1)) ∨ x = (([], 3), ([], 1)) := by
  unfold mP7
  rw [Tm.mem_pq_pair]
  refine or_congr ?_ Iff.rfl
  constructor
  · rintro ⟨p, hp, q, hq, rfl⟩
    rw [Tm.mem_tr_act.1 hp, Tm.mem_tr_act.1 hq]; rfl
  · rintro rfl
    exact ⟨_, Tm.mem_tr_act.2 rfl, _, Tm.mem_tr_act.2 rfl, rfl⟩
theorem pq_P7 [Dfr] : mP7.pq = [(([], 3), ([], 1)), (([sA], 1), ([sB], 1))] := by
  refine srt_ext ordQ (Tm.srt_pq _) ?_ fun x => ?_
  · simp only [srt_cons, List.mem_cons, List.not_mem_nil, or_false, forall_eq, false_imp_iff, implies_true, Srt.nil, and_true]
    rfl
  · rw [mem_P7]
    simp only [List.mem_cons, List.not_mem_nil, or_false]
    exact or_comm
theorem tr_B7 [Dfr] : mB7.tr = [([sA, sB], 1)] := by
  refine srt_ext ordT (Tm.srt_tr _) ?_ fun x => ?_
  · simp only [srt_cons, List.not_mem_nil, false_imp_iff, implies_true, Srt.nil, and_true]
  · unfold mB7
    rw [Tm.mem_tr_block, List.mem_singleton]
    constructor
    · rintro ⟨z, hz, h⟩
      obtain ⟨p, hp, q, hq, rfl⟩ := Tm.mem_pq_seq.1 hz
      have hq : q = (([], 2), ([], 1)) ∨ q = (([], 3), ([], 1)) := by
        refine (Tm.mem_pq_pair.1 hq).imp_left ?_
        rintro ⟨p', hp', q', hq', rfl⟩
        rw [Tm.mem_tr_throw.1 hp', Tm.mem_tr_skip.1 hq']; rfl
      rcases mem_P7.1 hp with rfl | rfl <;> rcases hq with rfl | rfl <;> rcases h with ⟨h1, h2⟩ | ⟨h1, h2⟩
      · exact absurd h1 (by decide)
      · exact h2
      · exact absurd h1 (by decide)
      · exact absurd h1 (by decide)
      · exact absurd h1 (by decide)
      · exact absurd h1 (by decide)
      · exact absurd h1 (by decide)
      · exact absurd h1 (by decide)
    · rintro rfl
      exact ⟨_, Tm.mem_pq_seq.2 ⟨_, mem_P7.2 (.inl rfl), (([], 2), ([], 1)), Tm.mem_pq_pair.2 (.inl ⟨_, Tm.mem_tr_throw.2 rfl, _, Tm.mem_tr_skip.2 rfl, rfl⟩), rfl⟩, .inr ⟨rfl, rfl⟩⟩
theorem tr_H7 [Dfr] : mH7.tr = [([sA], 1), ([sC], 1)] := by
  refine srt_ext ordT (Tm.srt_tr _) ?_ fun x => ?_
  · simp only [srt_cons, List.mem_cons, List.not_mem_nil, or_false, forall_eq, false_imp_iff, implies_true, Srt.nil, and_true]
    show Ordering.then (cmpL cmpB [sA] [sC]) _ = _
    rw [then_lt]
    exact .inl (by rw [cmpL, lt_AC]; rfl)
  · unfold mH7
    rw [Tm.mem_tr_hand]
    simp only [List.mem_cons, List.not_mem_nil, or_false]
    constructor
    · rintro ⟨p, hp, q, hq, rfl⟩
      rw [Tm.mem_tr_act.1 hq]
      rcases Tm.mem_tr_alt.1 hp with hp | hp
      · rw [Tm.mem_tr_act.1 hp]; exact .inl rfl
      · rw [Tm.mem_tr_throw.1 hp]; exact .inr rfl
    · rintro (rfl | rfl)
      · exact ⟨_, Tm.mem_tr_alt.2 (.inl (Tm.mem_tr_act.2 rfl)), _, Tm.mem_tr_act.2 rfl, rfl⟩
      · exact ⟨_, Tm.mem_tr_alt.2 (.inr (Tm.mem_tr_throw.2 rfl)), _, Tm.mem_tr_act.2 rfl, rfl⟩
theorem back_P7 [Dfr] : canon cmpT (mP7.pq.map (·.2)) = [([], 1), ([sB], 1)] := by
  rw [pq_P7]
  refine canon_of_srt ordT ?_
  simp only [List.map_cons, List.map_nil, srt_cons, List.mem_cons, List.not_mem_nil, or_false, forall_eq, false_imp_iff, implies_true, Srt.nil, and_true]
  rfl
theorem law07_alive_s [Dfr] [HasMix] : law07_alive = some true := by
  have fA : nameB sA = true := by decide
  have fB : nameB sB = true := by decide
  have fC : nameB sC = true := by decide
  have fP : mP7.fine := ⟨fA, fB⟩
  have fBk : mB7.fine := ⟨fP, ⟨trivial, trivial⟩⟩
  have fH : mH7.fine := ⟨⟨fA, trivial⟩, fC⟩
  have hB := mean_Plain_s mB7.row (by decide)
  rw [plainR_row fBk (by decide) (by rfl) ⟨by decide, by decide⟩, tr_B7] at hB
  have hH := mean_Plain_s mH7.row (by decide)
  rw [plainR_row fH (by decide) (by rfl) ⟨by decide, by decide⟩, tr_H7] at hH
  have hP := mean_Paired_s mP7.row (by decide)
  rw [pairedR_row fP (by decide) (by rfl) ⟨by decide, by decide⟩, pq_P7] at hP
  have hK := mean_Back_s mP7.row (by decide)
  rw [backR_row fP (by decide) (by rfl) ⟨by decide, by decide⟩, back_P7] at hK
  have hN := mean_Plain_s mP7.row (by decide)
  have hNo : plainR mP7.row = ([], 1) := by
    unfold plainR
    rw [sOf_row fP (by decide)]
    rfl
  rw [hNo] at hN
  have hS := mean_Small_s mP7.row
  rw [decide_eq_true (smallR_row.2 ⟨by decide, by decide⟩)] at hS
  have t1 : law07_texts [([sA, sB], 1)] = some ⟨#[97, 32, 98, 32, 111, 107, 59]⟩ := ((law07_texts_lim _).iff _).2 ⟨9, by kernel_rfl⟩
  have t2 : law07_texts [([sA], 1), ([sC], 1)] = some ⟨#[97, 32, 111, 107, 59, 99, 32, 111, 107, 59]⟩ := ((law07_texts_lim _).iff _).2 ⟨9, by kernel_rfl⟩
  have t3 : law07_texts [([], 1), ([sB], 1)] = some ⟨#[111, 107, 59, 98, 32, 111, 107, 59]⟩ := ((law07_texts_lim _).iff _).2 ⟨9, by kernel_rfl⟩
  have t4 : trace_Text ([], 3) = some ⟨#[63]⟩ := ((trace_Text_lim _).iff _).2 ⟨9, by kernel_rfl⟩
  have t5 : trace_Text ([sB], 1) = some ⟨#[98, 32, 111, 107]⟩ := ((trace_Text_lim _).iff _).2 ⟨9, by kernel_rfl⟩
  have eB : ([(9, ByteArray.empty, 0), (5, ByteArray.empty, 0), (10, ByteArray.empty, 0), (1, sA, 0), (1, sB, 0), (10, ByteArray.empty, 0), (3, ByteArray.empty, 0), (2, ByteArray.empty, 0)] : List Nd) = mB7.row := rfl
  have eH : ([(8, ByteArray.empty, 0), (6, ByteArray.empty, 0), (1, sA, 0), (3, ByteArray.empty, 0), (1, sC, 0)] : List Nd) = mH7.row := rfl
  have eP : ([(10, ByteArray.empty, 0), (1, sA, 0), (1, sB, 0)] : List Nd) = mP7.row := rfl
  rw [law07_alive_eq]
  simp only [law07_act_eq, Option.bind_some, eB, eH, eP, hB, hH, hP, hK, hN, hS, t1, t2, t3]
  have i0 : (ix [((([], 3), ([], 1)) : Qc), (([sA], 1), ([sB], 1))] 0).1 = ([], 3) := rfl
  have i1 : (ix [((([], 3), ([], 1)) : Qc), (([sA], 1), ([sB], 1))] 1).2 = ([sB], 1) := rfl
  simp only [i0, i1, t4, t5, Option.bind_some, str_eq]
  rfl
theorem law07_Olds_l0s [Dfr] (Q : List Qc) (hQ : Q.length ≤ 1000000000) : ∀ (r : List Qc) (i : Nat) (acc : List Qc), Q.drop i = r → acc.length ≤ i → law07_Olds_l0 acc Q (Q.length : Int) (i : Int) = some (0, acc ++ r)
  | [], i, acc, h, ha => by
    obtain ⟨h1, h2⟩ := drop_nil h
    rw [law07_Olds_l0_eq]
    simp only [h2, cond_false, List.append_nil]
  | x :: r, i, acc, h, ha => by
    obtain ⟨h1, h2, h3, h4, h5, h6⟩ := drop_cons h
    rw [law07_Olds_l0_eq]
    simp only [h2, h3, h4, cond_true, room (show (acc.length + 1) * 64 ≤ 140737488355328 by omega), w_succ (show i < 9223372036854775807 by omega)]
    rw [law07_Olds_l0s Q hQ r (i + 1) _ h5 (by simp; omega), List.append_assoc]
    rfl
theorem law07_Olds_s [Dfr] (Q : List Qc) (hQ : Q.length ≤ 1000000000) : law07_Olds Q = some Q := by
  have e := law07_Olds_l0s Q hQ Q 0 [] rfl (by simp)
  rw [Int.natCast_zero] at e
  rw [law07_Olds_eq, e]
  rfl
theorem law07_MeanPlain_true [Dfr] [HasMix] (l : List Nd) (hl : wfRow l) : law07_MeanPlain l = some true := by
  rw [law07_MeanPlain_eq, law07_few_s, Option.bind_some]
  by_cases hf : l.length ≤ 120 ∧ dep l ≤ 24
  · rw [decide_eq_true hf]
    obtain ⟨f1, f2, f3⟩ := plainR_few l
    simp only [Bool.not_true, cond_false, mean_Plain_s l (by omega), ref07_Plain_s l (by omega) hl.names, law07_alive_s, Option.bind_some, cond_true, law02_Olds_s _ (show (plainR l).1.length ≤ 1000000000 by omega),
      ref02_Same_s _ _ (show (plainR l).1.length ≤ 4611686018427387904 by omega) f1.short f1.short, mean_Small_s, ref07_Small_s, decide_true, beq_self_eq_true]
  · rw [decide_eq_false hf]
    simp only [Bool.not_false, cond_true, law07_alive_s, Option.bind_some]
theorem law07_MeanPaired_true [Dfr] [HasMix] (l : List Nd) (hl : wfRow l) : law07_MeanPaired l = some true := by
  rw [law07_MeanPaired_eq, law07_few_s, Option.bind_some]
  by_cases hf : l.length ≤ 120 ∧ dep l ≤ 24
  · rw [decide_eq_true hf]
    obtain ⟨f1, f2⟩ := pairedR_few l
    obtain ⟨g1, g2⟩ := backR_few l
    simp only [Bool.not_true, cond_false, mean_Paired_s l (by omega), ref07_Paired_s l (by omega) hl.names, mean_Back_s l (by omega), ref07_Back_s l (by omega) hl.names, law07_alive_s, Option.bind_some, cond_true,
      law07_Olds_s _ (show (pairedR l).1.length ≤ 1000000000 by omega), ref07_Same_s _ _ (show (pairedR l).1.length ≤ 4611686018427387904 by omega) f1.short f1.short,
      law02_Olds_s _ (show (backR l).1.length ≤ 1000000000 by omega), ref02_Same_s _ _ (show (backR l).1.length ≤ 4611686018427387904 by omega) g1.short g1.short, decide_true, beq_self_eq_true]
  · rw [decide_eq_false hf]
    simp only [Bool.not_false, cond_true, law07_alive_s, Option.bind_some]
end Go.Proofs.YtabhofdbgmdjkaaGreatDoor.Sv
