/- The laws of settling: what each tells. -/
import Derived.Test.YtlnpacehjfoffaaGreatDoorW10
import Derived.Test.YtlnpacehjfoffaaGreatDoorM5
namespace Go.Proofs.YtlnpacehjfoffaaGreatDoor.Sv
open Go Go.Sv Go.Rd
set_option linter.unusedVariables false
set_option linter.unusedSimpArgs false

theorem settleR_row [Dfr] {m : Tm} (hf : m.fine) (hs : m.size ≤ 200) (ho : m.po = true ∨ m.qo = true) : settleR m.row = m.st.row := by
  unfold settleR
  rw [tmOf_some.2 ⟨rfl, hf, hs⟩]
  simp [ho]

/-- Settling of a row that is written out. -/
theorem settle_at [Dfr] (m : Tm) {l r : List Nd} (hf : m.fine) (hs : m.size ≤ 200) (ho : m.po = true ∨ m.qo = true) (hl : l = m.row) (hr : m.st.row = r) : settle_Settle l = some r := by
  rw [settle_Settle_s l (by rw [hl, Tm.len_row]; omega), hl, settleR_row hf hs ho, hr]

theorem begin_at [Dfr] (m : Tm) {l r : List Nd} (hf : m.fine) (hs : m.size ≤ 60) (hd : m.t.depth ≤ 16) (ho : m.pl = true) (hl : l = m.row) (hr : m.st.row = r) : settle_Begin l = some r := by
  have hso : m.so = 1 := by unfold Tm.so; rw [ho]; rfl
  have hdp : dep m.row = m.t.depth := by unfold dep; rw [show P m.row = some (m.t, []) from P_row' m.t_ok]
  have hr' : rightT l = true := by
    unfold rightT
    rw [hl, sOf_row hf (by omega), hso, hdp, Tm.len_row]
    simp [hs, hd]
  rw [settle_Begin_s l (by rw [hl, Tm.len_row]; omega), hr', if_pos rfl, hl, settleR_row hf (by omega) (.inl (Tm.po_of_pl ho)), hr]

theorem nameA [Dfr] (b : UInt8) (h : lowB b = true := by decide) (h2 : decide ((⟨#[b]⟩ : ByteArray) ∈ wordsL) = false := by decide) : nameB ⟨#[b]⟩ = true := by
  unfold nameB
  rw [h2]
  simp [h, ByteArray.size]

theorem law10_alive_s [Dfr] : law10_alive = some true := by
  rw [law10_alive_eq]
  have s1 : settle_Settle [(5, ByteArray.empty, 0), (2, ByteArray.empty, 0), (1, (⟨#[97]⟩ : ByteArray), 0)] = some [(1, ⟨#[97]⟩, 0)] := settle_at (.seq .skip (.act ⟨#[97]⟩)) ⟨trivial, nameA 97⟩ (by decide) (.inl rfl) rfl rfl
  have s2 : settle_Settle [(9, ByteArray.empty, 0), (5, ByteArray.empty, 0), (14, ByteArray.empty, 1), (1, (⟨#[98]⟩ : ByteArray), 0), (10, ByteArray.empty, 0), (1, ⟨#[99]⟩, 0), (1, ⟨#[100]⟩, 0)] = some [(9, ByteArray.empty, 0), (13, ByteArray.empty, 0), (10, ByteArray.empty, 0), (1, ⟨#[99]⟩, 0), (1, ⟨#[100]⟩, 0), (1, ⟨#[98]⟩, 0)] :=
    settle_at (.block (.seq (.fin 1 (.act ⟨#[98]⟩)) (.pair (.act ⟨#[99]⟩) (.act ⟨#[100]⟩)))) ⟨⟨by decide, nameA 98⟩, nameA 99, nameA 100⟩ (by decide) (.inl rfl) rfl rfl
  have s3 : settle_Begin [(3, ByteArray.empty, 0)] = some [(11, ByteArray.empty, 2)] := begin_at .throw trivial (by decide) (by decide) rfl rfl rfl
  have s4 : settle_Settle [(9, ByteArray.empty, 0), (13, ByteArray.empty, 0), (10, ByteArray.empty, 0), (1, (⟨#[99]⟩ : ByteArray), 0), (1, ⟨#[100]⟩, 0), (1, ⟨#[98]⟩, 0)] = some [(9, ByteArray.empty, 0), (13, ByteArray.empty, 0), (10, ByteArray.empty, 0), (1, ⟨#[99]⟩, 0), (1, ⟨#[100]⟩, 0), (1, ⟨#[98]⟩, 0)] :=
    settle_at (.block (.stack (.pair (.act ⟨#[99]⟩) (.act ⟨#[100]⟩)) (.act ⟨#[98]⟩))) ⟨⟨nameA 99, nameA 100⟩, nameA 98⟩ (by decide) (.inl rfl) rfl rfl
  have s5 : settle_Settle [(2, ByteArray.empty, 0)] = some [(11, ByteArray.empty, 1)] := settle_at .skip trivial (by decide) (.inl rfl) rfl rfl
  have s6 : settle_Settle [(1, ByteArray.empty, 0)] = some [] := by
    rw [settle_Settle_s _ (by decide)]
    unfold settleR
    rw [tmOf_none.2 (by decide)]
  have s7 : settle_Begin [(9, ByteArray.empty, 0), (13, ByteArray.empty, 0), (10, ByteArray.empty, 0), (1, (⟨#[99]⟩ : ByteArray), 0), (1, ⟨#[100]⟩, 0), (1, ⟨#[98]⟩, 0)] = some [] := by
    rw [settle_Begin_s _ (by decide)]
    have hso : sOf [(9, ByteArray.empty, 0), (13, ByteArray.empty, 0), (10, ByteArray.empty, 0), (1, (⟨#[99]⟩ : ByteArray), 0), (1, ⟨#[100]⟩, 0), (1, ⟨#[98]⟩, 0)] = 3 := sOf_row (m := .block (.stack (.pair (.act ⟨#[99]⟩) (.act ⟨#[100]⟩)) (.act ⟨#[98]⟩))) ⟨⟨nameA 99, nameA 100⟩, nameA 98⟩ (by decide)
    unfold rightT
    rw [hso]; rfl
  have d4 : settle_Settled [(9, ByteArray.empty, 0), (13, ByteArray.empty, 0), (10, ByteArray.empty, 0), (1, (⟨#[99]⟩ : ByteArray), 0), (1, ⟨#[100]⟩, 0), (1, ⟨#[98]⟩, 0)] = some true := by
    rw [settle_Settled_eq]
    simp (disch := decide) only [s4, Option.bind_some, row_Same_s, decide_true]
    rfl
  have d5 : settle_Settled [(2, ByteArray.empty, 0)] = some false := by
    rw [settle_Settled_eq]
    simp (disch := decide) only [s5, Option.bind_some, row_Same_s]
    rfl
  simp (disch := decide) only [law10_act_eq, Option.bind_some, s1, s2, s3, s6, s7, d4, d5, settle_Ended_s, ref03_Same_s, settle_Settled_eq [], decide_true]
  rfl

theorem law10_few_s [Dfr] (l : List Nd) : law10_few l = some (decide (l.length ≤ 120 ∧ dep l ≤ 24)) := by
  rw [law10_few_eq]
  by_cases h : l.length ≤ 120
  · have e : decide ((l.length : Int) ≤ 120) = true := decide_eq_true (by omega)
    simp only [e, cond_true, ref03_Depth_s l (by omega), Option.bind_some, h, true_and]
    congr 1
    rw [decide_eq_decide]; omega
  · have e : decide ((l.length : Int) ≤ 120) = false := decide_eq_false (by omega)
    simp only [e, cond_false, h, false_and, decide_false]

theorem settleR_len [Dfr] (l : List Nd) : (settleR l).length ≤ 200 := by
  unfold settleR
  split
  · rename_i m hm
    split
    · have := m.st_size
      have := (tmOf_some.1 hm).2.2
      rw [Tm.len_row]; omega
    · simp
  · simp

/-- What comes of a row: nothing, or of a tree that goes on. -/
theorem settleR_cases [Dfr] (l : List Nd) : settleR l = [] ∨ ∃ m : Tm, l = m.row ∧ m.fine ∧ m.size ≤ 200 ∧ (m.po = true ∨ m.qo = true) ∧ settleR l = m.st.row ∧ sOf l = m.so := by
  unfold settleR sOf
  cases h : tmOf l with
  | none => exact .inl rfl
  | some m =>
    obtain ⟨rfl, h2, h3⟩ := tmOf_some.1 h
    by_cases ho : m.po = true ∨ m.qo = true
    · exact .inr ⟨m, rfl, h2, h3, ho, by simp [ho], rfl⟩
    · exact .inl (by simp [ho])

theorem st_on [Dfr] {m : Tm} (ho : m.po = true ∨ m.qo = true) : m.st.po = m.po ∧ m.st.qo = m.qo := by
  rcases ho with h | h
  · have h1 := Tm.st_po h
    rw [h, h1, Tm.po_qo _ h, Tm.po_qo _ h1]; exact ⟨rfl, rfl⟩
  · have h1 := Tm.st_qo h
    have e : ∀ x : Tm, x.qo = true → x.po = false := fun x hx => by
      cases hp : x.po with
      | false => rfl
      | true => rw [Tm.po_qo _ hp] at hx; cases hx
    rw [h, h1, e _ h, e _ h1]; exact ⟨rfl, rfl⟩

end Go.Proofs.YtlnpacehjfoffaaGreatDoor.Sv
