/- The laws of settling: what each tells. -/
import Derived.Test.YtlnpacehjfoffaaDoorW10
import Derived.Test.YtlnpacehjfoffaaDoorM5
namespace Go.Proofs.YtlnpacehjfoffaaDoor.Sv
open Go Go.Sv Go.Rd
set_option linter.unusedVariables false
set_option linter.unusedSimpArgs false

theorem settleR_row {m : Tm} (hf : m.fine) (hs : m.size ≤ 200) (ho : m.po = true ∨ m.qo = true) : settleR m.row = m.st.row := by
  unfold settleR
  rw [tmOf_some.2 ⟨rfl, hf, hs⟩]
  simp [ho]

/-- Settling of a row that is written out. -/
theorem settle_at (m : Tm) {l r : List Nd} (hf : m.fine) (hs : m.size ≤ 200) (ho : m.po = true ∨ m.qo = true) (hl : l = m.row) (hr : m.st.row = r) : settle_Settle l = some r := by
  rw [settle_Settle_s l (by rw [hl, Tm.len_row]; omega), hl, settleR_row hf hs ho, hr]

theorem begin_at (m : Tm) {l r : List Nd} (hf : m.fine) (hs : m.size ≤ 60) (hd : m.t.depth ≤ 16) (ho : m.pl = true) (hl : l = m.row) (hr : m.st.row = r) : settle_Begin l = some r := by
  have hso : m.so = 1 := by unfold Tm.so; rw [ho]; rfl
  have hdp : dep m.row = m.t.depth := by unfold dep; rw [show P m.row = some (m.t, []) from P_row' m.t_ok]
  have hr' : rightT l = true := by
    unfold rightT
    rw [hl, sOf_row hf (by omega), hso, hdp, Tm.len_row]
    simp [hs, hd]
  rw [settle_Begin_s l (by rw [hl, Tm.len_row]; omega), hr', if_pos rfl, hl, settleR_row hf (by omega) (.inl (Tm.po_of_pl ho)), hr]

theorem nameA (b : UInt8) (h : lowB b = true := by decide) (h2 : decide ((⟨#[b]⟩ : ByteArray) ∈ wordsL) = false := by decide) : nameB ⟨#[b]⟩ = true := by
  unfold nameB
  rw [h2]
  simp [h, ByteArray.size]

theorem law10_alive_s : law10_alive = some true := by
  rw [law10_alive_eq]
  have s1 : settle_Settle [(5, ByteArray.empty, 0), (2, ByteArray.empty, 0), (1, (⟨#[97]⟩ : ByteArray), 0)] = some [(1, ⟨#[97]⟩, 0)] := settle_at (.seq .skip (.act ⟨#[97]⟩)) ⟨trivial, nameA 97⟩ (by decide) (.inl rfl) rfl rfl
  have s2 : settle_Settle [(9, ByteArray.empty, 0), (5, ByteArray.empty, 0), (14, ByteArray.empty, 1), (1, (⟨#[98]⟩ : ByteArray), 0), (10, ByteArray.empty, 0), (1, ⟨#[99]⟩, 0), (1, ⟨#[100]⟩, 0)] = some [(9, ByteArray.empty, 0), (13, ByteArray.empty, 0), (10, ByteArray.empty, 0), (1, ⟨#[99]⟩, 0), (1, ⟨#[100]⟩, 0), (1, ⟨#[98]⟩, 0)] :=
    settle_at (.block (.seq (.fin 1 (.act ⟨#[98]⟩)) (.pair (.act ⟨#[99]⟩) (.act ⟨#[100]⟩)))) ⟨⟨by decide, nameA 98⟩, nameA 99, nameA 100⟩ (by decide) (.inl rfl) rfl rfl
  have s3 : settle_Begin [(3, ByteArray.empty, 0)] = some [(11, ByteArray.empty, 2)] := begin_at .throw trivial (by decide) (by decide) rfl rfl rfl
  have s4 : settle_Settle [(9, ByteArray.empty, 0), (13, ByteArray.empty, 0), (10, ByteArray.empty, 0), (1, (⟨#[99]⟩ : ByteArray), 0), (1, ⟨#[100]⟩, 0), (1, ⟨#[98]⟩, 0)] = some [(9, ByteArray.empty, 0), (13, ByteArray.empty, 0), (10, ByteArray.empty, 0), (1, ⟨#[99]⟩, 0), (1, ⟨#[100]⟩, 0), (1, ⟨#[98]⟩, 0)] :=
    settle_at (.block (.stack (.pair (.act ⟨#[99]⟩) (.act ⟨#[100]⟩)) (.act ⟨#[98]⟩))) ⟨⟨nameA 99, nameA 100⟩, nameA 98⟩ (by decide) (.inl rfl) rfl rfl
  have s5 : settle_Settle [(2, ByteArray.empty, 0)] = some [(11, ByteArray.empty, 1)] := settle_at .skip trivial (by decide) (.inl rfl) rfl rfl
  have s6 : settle_Settle [(1, ByteArray.empty, 0)] = some [] := by
    rw [settle_Settle_s _ (by decide)]
    unfold settleR
    rw [tmOf_none.2 (by decide)]
  have s7 : settle_Begin [(9, ByteArray.empty, 0), (13, ByteArray.empty, 0), (10, ByteArray.empty, 0), (1, (⟨#[99]⟩ : ByteArray), 0), (1, ⟨#[100]⟩, 0), (1, ⟨#[98]⟩, 0)] = some [] := by
    rw [settle_Begin_s _ (by decide)]
    have hso : sOf [(9, ByteArray.empty, 0), (13, ByteArray.empty, 0), (10, ByteArray.empty, 0), (1, (⟨#[99]⟩ : ByteArray), 0), (1, ⟨#[100]⟩, 0), (1, ⟨#[98]⟩, 0)] = 3 := sOf_row (m := .block (.stack (.pair (.act ⟨#[99]⟩) (.act ⟨#[100]⟩)) (.act ⟨#[98]⟩))) ⟨⟨nameA 99, nameA 100⟩, nameA 98⟩ (by decide)
    unfold rightT
    rw [hso]; rfl
  have d4 : settle_Settled [(9, ByteArray.empty, 0), (13, ByteArray.empty, 0), (10, ByteArray.empty, 0), (1, (⟨#[99]⟩ : ByteArray), 0), (1, ⟨#[100]⟩, 0), (1, ⟨#[98]⟩, 0)] = some true := by
    rw [settle_Settled_eq]
    simp (disch := decide) only [s4, Option.bind_some, row_Same_s, decide_true]
    rfl
  have d5 : settle_Settled [(2, ByteArray.empty, 0)] = some false := by
    rw [settle_Settled_eq]
    simp (disch := decide) only [s5, Option.bind_some, row_Same_s]
    rfl
  simp (disch := decide) only [law10_act_eq, Option.bind_some, s1, s2, s3, s6, s7, d4, d5, settle_Ended_s, ref03_Same_s, settle_Settled_eq [], decide_true]
  rfl

theorem law10_few_s (l : List Nd) : law10_few l = some (decide (l.length ≤ 120 ∧ dep l ≤ 24)) := by
  rw [law10_few_eq]
  by_cases h : l.length ≤ 120
  · have e : decide ((l.length : Int) ≤ 120) = true := decide_eq_true (by omega)
    simp only [e, cond_true, ref03_Depth_s l (by omega), Option.bind_some, h, true_and]
    congr 1
    rw [decide_eq_decide]; omega
  · have e : decide ((l.length : Int) ≤ 120) = false := decide_eq_false (by omega)
    simp only [e, cond_false, h, false_and, decide_false]

theorem settleR_len (l : List Nd) : (settleR l).length ≤ 200 := by
  unfold settleR
  split
  · rename_i m hm
    split
    · have := m.st_size
      have := (tmOf_some.1 hm).2.2
      rw [Tm.len_row]; omega
    · simp
  · simp

theorem law10_SettleAll_true (l : List Nd) (hw : wfRow l) : law10_SettleAll l = some true := by
  have hn := hw.names
  rw [law10_SettleAll_eq]
  simp only [law10_few_s, law10_alive_s, Option.bind_some]
  by_cases h : l.length ≤ 120 ∧ dep l ≤ 24
  · have h1 := h.1
    have h2 := settleR_len l
    simp only [h, and_self, decide_true, Bool.not_true, cond_false, cond_true, room (show (0 + l.length) * 32 ≤ 140737488355328 by omega), settle_Settle_s l (by omega), ref10_Settle_s l (by omega) hn, Option.bind_some, ref03_Same_s _ _ (show (settleR l).length ≤ 4611686018427387904 by omega), List.nil_append, ref03_Same_s l l (by omega)]
  · simp only [decide_eq_false h, Bool.not_false, cond_true]

theorem law10_SettleBegins_true (l : List Nd) (hw : wfRow l) : law10_SettleBegins l = some true := by
  have hn := hw.names
  rw [law10_SettleBegins_eq]
  simp only [law10_few_s, law10_alive_s, Option.bind_some]
  by_cases h : l.length ≤ 120 ∧ dep l ≤ 24
  · have h1 := h.1
    have h2 := settleR_len l
    have hb : (if rightT l then settleR l else []).length ≤ 4611686018427387904 := by
      split
      · omega
      · simp
    simp only [h, and_self, decide_true, Bool.not_true, cond_false, cond_true, settle_Ended_s, settle_Begin_s l (by omega), ref10_Begin_s l (by omega) hn, settle_Settled_s l (by omega), ref10_Settle_s l (by omega) hn, Option.bind_some, ref03_Same_s _ _ hb, ref03_Same_s _ _ (show (settleR l).length ≤ 4611686018427387904 by omega)]
    match l with
    | [] => rfl
    | [n] =>
      by_cases h11 : n.1 = 11
      · simp [idxOk, ix, h11]
      · simp [idxOk, ix, h11, beq_false_of_ne h11]
    | a :: b :: r =>
      have e1 : (((a :: b :: r).length : Int) == 1) = false := beq_false_of_ne (by simp only [List.length_cons]; omega)
      have e2 : decide (((a :: b :: r).length : Int) > 0) = true := decide_eq_true (by simp only [List.length_cons]; omega)
      simp only [e1, e2, cond_true, cond_false]
      simp
  · simp only [decide_eq_false h, Bool.not_false, cond_true]

/-- What comes of a row: nothing, or of a tree that goes on. -/
theorem settleR_cases (l : List Nd) : settleR l = [] ∨ ∃ m : Tm, l = m.row ∧ m.fine ∧ m.size ≤ 200 ∧ (m.po = true ∨ m.qo = true) ∧ settleR l = m.st.row ∧ sOf l = m.so := by
  unfold settleR sOf
  cases h : tmOf l with
  | none => exact .inl rfl
  | some m =>
    obtain ⟨rfl, h2, h3⟩ := tmOf_some.1 h
    by_cases ho : m.po = true ∨ m.qo = true
    · exact .inr ⟨m, rfl, h2, h3, ho, by simp [ho], rfl⟩
    · exact .inl (by simp [ho])

theorem st_on {m : Tm} (ho : m.po = true ∨ m.qo = true) : m.st.po = m.po ∧ m.st.qo = m.qo := by
  rcases ho with h | h
  · have h1 := Tm.st_po h
    rw [h, h1, Tm.po_qo _ h, Tm.po_qo _ h1]; exact ⟨rfl, rfl⟩
  · have h1 := Tm.st_qo h
    have e : ∀ x : Tm, x.qo = true → x.po = false := fun x hx => by
      cases hp : x.po with
      | false => rfl
      | true => rw [Tm.po_qo _ hp] at hx; cases hx
    rw [h, h1, e _ h, e _ h1]; exact ⟨rfl, rfl⟩

theorem law10_SettleTwice_true (l : List Nd) (hw : wfRow l) : law10_SettleTwice l = some true := by
  rw [law10_SettleTwice_eq]
  simp only [law10_few_s, law10_alive_s, Option.bind_some]
  by_cases h : l.length ≤ 120 ∧ dep l ≤ 24
  · have h1 := h.1
    have h2 := settleR_len l
    simp only [h, and_self, decide_true, Bool.not_true, cond_false, settle_Settle_s l (by omega), Option.bind_some]
    rcases settleR_cases l with hz | ⟨m, rfl, hf, hs, ho, hr, hso⟩
    · rw [hz]; rfl
    · have hsz := m.st_size
      have e1 : ((m.st.row.length : Int) == 0) = false := beq_false_of_ne (by rw [Tm.len_row]; have := m.st.size_pos; omega)
      have hon := st_on ho
      have hst : settleR m.st.row = m.st.row := by
        rw [settleR_row (Tm.st_fine hf) (by omega) (by rw [hon.1, hon.2]; exact ho), Tm.st_st]
      have hl : m.st.row.length ≤ 200 := by rw [Tm.len_row]; omega
      rw [hr]
      simp only [e1, cond_false, cond_true, settle_Settled_s _ (show m.st.row.length ≤ 1000000000000 by omega), settle_Settle_s _ (show m.st.row.length ≤ 1000000000000 by omega), hst, Option.bind_some, sort_On_s _ _ (show m.st.row.length ≤ 1000000000000 by omega), sort_On_s _ _ (show m.row.length ≤ 1000000000000 by omega)]
      have e2 : decide (m.st.row ≠ [] ∧ True) = true := decide_eq_true ⟨m.st.row_ne, trivial⟩
      rw [e2, sOf_row hf hs, sOf_row (Tm.st_fine hf) (by omega), ref03_Same_s _ _ (by omega)]
      simp only [cond_true, decide_true, Option.bind_some, if_true, if_false, Bool.false_eq_true, on_qo, on_po, hon.1, hon.2, beq_self_eq_true]
  · simp only [decide_eq_false h, Bool.not_false, cond_true]

theorem law10_waits_s (m : Tm) (hs : m.size ≤ 1000) : law10_waits m.row = some m.waits := by
  induction m with
  | act s => rw [law10_waits_eq, rkids0 (.act s) rfl (by omega)]; rfl
  | skip => rw [law10_waits_eq, rkids0 .skip rfl (by omega)]; rfl
  | throw => rw [law10_waits_eq, rkids0 .throw rfl (by omega)]; rfl
  | yield => rw [law10_waits_eq, rkids0 .yield rfl (by omega)]; rfl
  | over s => rw [law10_waits_eq, rkids0 (.over s) rfl (by omega)]; rfl
  | alt a b _ _ => rw [law10_waits_eq, rkids2 (.alt a b) rfl (by omega)]; simp only [hd_id, hd_ix]; rfl
  | pair a b _ _ => rw [law10_waits_eq, rkids2 (.pair a b) rfl (by omega)]; simp only [hd_id, hd_ix]; rfl
  | fin s a _ => rw [law10_waits_eq, rkids1 (.fin s a) rfl (by omega)]; simp only [hd_id, hd_ix]; rfl
  | block a iha =>
    rw [Tm.size_block] at hs
    rw [law10_waits_eq, rkids1 (.block a) rfl (by rw [Tm.size_block]; omega)]
    simp only [hd_id, hd_ix, Option.bind_some, show ix [a.row] 0 = a.row from rfl, iha (by omega)]; rfl
  | seq a b iha _ =>
    rw [Tm.size_seq] at hs
    rw [law10_waits_eq, rkids2 (.seq a b) rfl (by rw [Tm.size_seq]; omega)]
    simp only [hd_id, hd_ix, Option.bind_some, show ix [a.row, b.row] 0 = a.row from rfl, iha (by omega)]; rfl
  | hand a b iha _ =>
    rw [Tm.size_hand] at hs
    rw [law10_waits_eq, rkids2 (.hand a b) rfl (by rw [Tm.size_hand]; omega)]
    simp only [hd_id, hd_ix, Option.bind_some, show ix [a.row, b.row] 0 = a.row from rfl, iha (by omega)]; rfl
  | going a b iha _ =>
    rw [Tm.size_going] at hs
    rw [law10_waits_eq, rkids2 (.going a b) rfl (by rw [Tm.size_going]; omega)]
    simp only [hd_id, hd_ix, Option.bind_some, show ix [a.row, b.row] 0 = a.row from rfl, iha (by omega)]; rfl
  | stack a b iha _ =>
    rw [Tm.size_stack] at hs
    rw [law10_waits_eq, rkids2 (.stack a b) rfl (by rw [Tm.size_stack]; omega)]
    simp only [hd_id, hd_ix, Option.bind_some, show ix [a.row, b.row] 0 = a.row from rfl, iha (by omega)]; rfl
  | par a b iha ihb =>
    rw [Tm.size_par] at hs
    rw [law10_waits_eq, rkids2 (.par a b) rfl (by rw [Tm.size_par]; omega)]
    simp only [hd_id, hd_ix, Option.bind_some, show ix [a.row, b.row] 0 = a.row from rfl, show ix [a.row, b.row] 1 = b.row from rfl, iha (by omega), ihb (by omega), Tm.waits]
    cases a.waits <;> rfl

theorem law10_stuck_s (m : Tm) (hs : m.size ≤ 1000) : law10_stuck m.row = some m.stuck := by
  induction m with
  | act s => rw [law10_stuck_eq, rkids0 (.act s) rfl (by omega)]; rfl
  | skip => rw [law10_stuck_eq, rkids0 .skip rfl (by omega)]; rfl
  | throw => rw [law10_stuck_eq, rkids0 .throw rfl (by omega)]; rfl
  | yield => rw [law10_stuck_eq, rkids0 .yield rfl (by omega)]; rfl
  | over s => rw [law10_stuck_eq, rkids0 (.over s) rfl (by omega)]; rfl
  | alt a b _ _ => rw [law10_stuck_eq, rkids2 (.alt a b) rfl (by omega)]; simp only [hd_id, hd_ix]; rfl
  | pair a b _ _ => rw [law10_stuck_eq, rkids2 (.pair a b) rfl (by omega)]; simp only [hd_id, hd_ix]; rfl
  | fin s a _ => rw [law10_stuck_eq, rkids1 (.fin s a) rfl (by omega)]; simp only [hd_id, hd_ix]; rfl
  | block a iha =>
    rw [Tm.size_block] at hs
    rw [law10_stuck_eq, rkids1 (.block a) rfl (by rw [Tm.size_block]; omega)]
    simp only [hd_id, hd_ix, Option.bind_some, show ix [a.row] 0 = a.row from rfl, show idxOk 0 [a.row].length = true from rfl, cond_true, iha (by omega), show ((Tm.block a).t.hd.1 == 9) = true from rfl, Tm.stuck]
    cases a <;> first | rfl | skip
    rename_i s c
    simp only [Tm.t, T.hd, emp, int_eq]
    by_cases h3 : s = 3
    · simp [h3]
    · simp [h3, Tm.stuck]
  | seq a b iha _ =>
    rw [Tm.size_seq] at hs
    rw [law10_stuck_eq, rkids2 (.seq a b) rfl (by rw [Tm.size_seq]; omega)]
    simp only [hd_id, hd_ix, Option.bind_some, show ix [a.row, b.row] 0 = a.row from rfl, iha (by omega)]; rfl
  | hand a b iha _ =>
    rw [Tm.size_hand] at hs
    rw [law10_stuck_eq, rkids2 (.hand a b) rfl (by rw [Tm.size_hand]; omega)]
    simp only [hd_id, hd_ix, Option.bind_some, show ix [a.row, b.row] 0 = a.row from rfl, iha (by omega)]; rfl
  | going a b iha _ =>
    rw [Tm.size_going] at hs
    rw [law10_stuck_eq, rkids2 (.going a b) rfl (by rw [Tm.size_going]; omega)]
    simp only [hd_id, hd_ix, Option.bind_some, show ix [a.row, b.row] 0 = a.row from rfl, iha (by omega)]; rfl
  | stack a b iha _ =>
    rw [Tm.size_stack] at hs
    rw [law10_stuck_eq, rkids2 (.stack a b) rfl (by rw [Tm.size_stack]; omega)]
    simp only [hd_id, hd_ix, Option.bind_some, show ix [a.row, b.row] 0 = a.row from rfl, iha (by omega)]; rfl
  | par a b iha ihb =>
    rw [Tm.size_par] at hs
    rw [law10_stuck_eq, rkids2 (.par a b) rfl (by rw [Tm.size_par]; omega)]
    simp only [hd_id, hd_ix, Option.bind_some, show ix [a.row, b.row] 0 = a.row from rfl, show ix [a.row, b.row] 1 = b.row from rfl, iha (by omega), ihb (by omega), Tm.stuck]
    cases a.stuck <;> rfl

theorem law10_SettleEnds_true (l : List Nd) (hw : wfRow l) : law10_SettleEnds l = some true := by
  rw [law10_SettleEnds_eq]
  simp only [law10_few_s, law10_alive_s, Option.bind_some]
  by_cases h : l.length ≤ 120 ∧ dep l ≤ 24
  · have h1 := h.1
    simp only [h, and_self, decide_true, Bool.not_true, cond_false, settle_Settle_s l (by omega), Option.bind_some]
    rcases settleR_cases l with hz | ⟨m, rfl, hf, hs, ho, hr, hso⟩
    · rw [hz]; rfl
    · have hsz := m.st_size
      have e1 : ((m.st.row.length : Int) == 0) = false := beq_false_of_ne (by rw [Tm.len_row]; have := m.st.size_pos; omega)
      have hon := st_on ho
      have he := Tm.settled_ends m.st (Tm.settled_st m) (Tm.st_fine hf) (by rw [hon.1, hon.2]; exact ho)
      rw [hr]
      simp only [e1, cond_false, cond_true, law10_waits_s m.st (by omega), law10_stuck_s m.st (by omega), Option.bind_some, hd_id, hd_ix]
      generalize m.st = x at he
      rcases he with k | k | k | k
      · rw [k]; rfl
      · cases x <;> first | (cases k; done) | rfl
      · cases x <;> first | (cases k; done) | rfl
      · rw [k]
        cases x.waits <;> simp only [cond_true, cond_false]
        by_cases c1 : x.t.hd.1 = 11
        · simp [c1]
        · by_cases c2 : x.t.hd.1 = 14
          · simp [c2]
          · simp only [int_eq, c1, c2, decide_false, cond_false]
  · simp only [decide_eq_false h, Bool.not_false, cond_true]

theorem law10_SettleUnder_true (a b : List Nd) (hwa : wfRow a) (hwb : wfRow b) : law10_SettleUnder a b = some true := by
  rw [law10_SettleUnder_eq]
  simp only [law10_few_s, law10_alive_s, Option.bind_some]
  by_cases h : a.length ≤ 120 ∧ dep a ≤ 24
  · by_cases h' : b.length ≤ 120 ∧ dep b ≤ 24
    · have h1 := h.1
      have h2 := h'.1
      have e0 : w64 ((a.length : Int) + (b.length : Int)) = ((a.length + b.length : Nat) : Int) := by rw [w64_id (by omega) (by omega)]; rfl
      simp only [h, h', and_self, decide_true, Bool.not_true, cond_false, e0]
      by_cases h3 : a.length + b.length > 120
      · rw [decide_eq_true (show ((a.length + b.length : Nat) : Int) > 120 by omega)]; rfl
      · rw [decide_eq_false (show ¬ ((a.length + b.length : Nat) : Int) > 120 by omega)]
        simp only [cond_false, settle_Settle_s a (by omega), settle_Settle_s b (by omega), Option.bind_some]
        rcases settleR_cases a with hz | ⟨m, rfl, hf, hs, ho, hr, hso⟩
        · rw [hz]; rfl
        rcases settleR_cases b with hz | ⟨n, rfl, hf', hs', ho', hr', hso'⟩
        · rw [hz]; cases (((settleR m.row).length : Int) == 0) <;> rfl
        rw [Tm.len_row] at h1 h2
        rw [Tm.len_row, Tm.len_row] at h3
        have hsz := m.st_size
        have hsz' := n.st_size
        have e1 : ((m.st.row.length : Int) == 0) = false := beq_false_of_ne (by rw [Tm.len_row]; have := m.st.size_pos; omega)
        have e2 : ((n.st.row.length : Int) == 0) = false := beq_false_of_ne (by rw [Tm.len_row]; have := n.st.size_pos; omega)
        simp only [hr, hr', e1, e2, cond_false, sort_On_s _ _ (show m.row.length ≤ 1000000000000 by rw [Tm.len_row]; omega), sort_On_s _ _ (show n.row.length ≤ 1000000000000 by rw [Tm.len_row]; omega), Option.bind_some, hso, hso', if_true, on_qo]
        by_cases hq : m.qo = n.qo
        · have hon := st_on ho
          have hon' := st_on ho'
          have hpp : (Tm.par m n).po = true ∨ (Tm.par m n).qo = true := by
            cases hm : m.qo with
            | true => right; rw [hm] at hq; simp [Tm.qo, hm, ← hq]
            | false =>
              left
              rw [hm] at hq ho
              rw [← hq] at ho'
              have k1 : m.po = true := by rcases ho with k | k; exact k; cases k
              have k2 : n.po = true := by rcases ho' with k | k; exact k; cases k
              simp [Tm.po, k1, k2]
          have hpp' : (Tm.par m.st n.st).po = true ∨ (Tm.par m.st n.st).qo = true := by
            simp only [Tm.po, Tm.qo, hon.1, hon.2, hon'.1, hon'.2] at hpp ⊢; exact hpp
          have t1 : ref03_Two (7, ByteArray.empty, 0) m.row n.row = some (Tm.par m n).row := two_s 7 m n (by omega) (by omega)
          have t2 : ref03_Two (7, ByteArray.empty, 0) m.st.row n.st.row = some (Tm.par m.st n.st).row := two_s 7 m.st n.st (by omega) (by omega)
          have o1 : ref03_One (9, ByteArray.empty, 0) m.row = some (Tm.block m).row := ref03_One_s _ _ (by rw [Tm.len_row]; omega)
          have o2 : ref03_One (9, ByteArray.empty, 0) m.st.row = some (Tm.block m.st).row := ref03_One_s _ _ (by rw [Tm.len_row]; omega)
          have s1 := settleR_row (m := .par m n) ⟨hf, hf'⟩ (by rw [Tm.size_par]; omega) hpp
          have s2 := settleR_row (m := .par m.st n.st) ⟨Tm.st_fine hf, Tm.st_fine hf'⟩ (by rw [Tm.size_par]; omega) hpp'
          rw [Tm.st_par] at s1 s2
          rw [Tm.st_st, Tm.st_st] at s2
          have s3 : settleR (Tm.block m).row = settleR (Tm.block m.st).row := by
            unfold settleR
            rw [tmOf_some.2 ⟨rfl, (show (Tm.block m).fine from hf), by rw [Tm.size_block]; omega⟩, tmOf_some.2 ⟨rfl, (show (Tm.block m.st).fine from Tm.st_fine hf), by rw [Tm.size_block]; omega⟩]
            simp only [Tm.po, Tm.qo, hon.2, Tm.st_block, Tm.st_st]
          have hl1 : (Tm.par m n).row.length ≤ 1000000000000 := by rw [Tm.len_row, Tm.size_par]; omega
          have hl2 : (Tm.par m.st n.st).row.length ≤ 1000000000000 := by rw [Tm.len_row, Tm.size_par]; omega
          have hl3 : (Tm.block m).row.length ≤ 1000000000000 := by rw [Tm.len_row, Tm.size_block]; omega
          have hl4 : (Tm.block m.st).row.length ≤ 1000000000000 := by rw [Tm.len_row, Tm.size_block]; omega
          have g1 := settleR_len (Tm.par m n).row
          have g2 := settleR_len (Tm.block m).row
          simp only [hq, beq_self_eq_true, Bool.not_true, cond_false, t1, t2, o1, o2, Option.bind_some, settle_Settle_s _ hl1, settle_Settle_s _ hl2, settle_Settle_s _ hl3, settle_Settle_s _ hl4, s1, s2, s3]
          rw [ref03_Same_s _ _ (by rw [← s1]; omega), ref03_Same_s _ _ (by rw [← s3]; omega)]
          simp
        · have : (decide (m.qo = true) == decide (n.qo = true)) = false := by
            cases hm : m.qo <;> cases hn : n.qo <;> simp_all
          simp only [this, Bool.not_false, cond_true]
    · simp only [h, and_self, decide_true, Bool.not_true, cond_false, decide_eq_false h', Bool.not_false, cond_true]
  · simp only [decide_eq_false h, Bool.not_false, cond_true]

end Go.Proofs.YtlnpacehjfoffaaDoor.Sv
