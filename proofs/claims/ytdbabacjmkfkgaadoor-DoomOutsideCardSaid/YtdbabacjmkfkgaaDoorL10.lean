/- The laws of settling: what each tells. -/
import Derived.Test.YtdbabacjmkfkgaaDoorW10
import Derived.Test.YtdbabacjmkfkgaaDoorM5
namespace Go.Proofs.YtdbabacjmkfkgaaDoor.Sv
open Go Go.Sv Go.Rd
set_option linter.unusedVariables false
set_option linter.unusedSimpArgs false

theorem settleR_row [Dfr] {m : Tm} (hf : m.fine) (hs : m.size ≤ 200) (ho : m.po = true ∨ m.qo = true) : settleR m.row = m.st.row := by
  unfold settleR
  rw [tmOf_some.2 ⟨rfl, hf, hs⟩]
  simp [ho]

/-- Settling of a row that is written out. -/
theorem settle_at [Dfr] (m : Tm) {l r : List Nd} (hf : m.fine) (hs : m.size ≤ 200) (ho : m.po = true ∨ m.qo = true) (hl : l = m.row) (hr : m.st.row = r) : settle_Settle l = some r := by
  rw [settle_Settle_s l (by rw [hl, Tm.len_row]; omega), hl, settleR_row hf hs ho, hr]

theorem nameA [Dfr] (b : UInt8) (h : lowB b = true := by decide) (h2 : decide ((⟨#[b]⟩ : ByteArray) ∈ wordsL) = false := by decide) : nameB ⟨#[b]⟩ = true := by
  unfold nameB
  rw [h2]
  simp [h, ByteArray.size]

theorem settleR_len [Dfr] (l : List Nd) : (settleR l).length ≤ 200 := by
  unfold settleR
  split
  · rename_i m hm
    split
    · have := m.st_size
      have := (tmOf_some.1 hm).2.2
      rw [Tm.len_row]; omega
    · simp
  · simp

/-- What comes of a row: nothing, or of a tree that goes on. -/
theorem settleR_cases [Dfr] (l : List Nd) : settleR l = [] ∨ ∃ m : Tm, l = m.row ∧ m.fine ∧ m.size ≤ 200 ∧ (m.po = true ∨ m.qo = true) ∧ settleR l = m.st.row ∧ sOf l = m.so := by
  unfold settleR sOf
  cases h : tmOf l with
  | none => exact .inl rfl
  | some m =>
    obtain ⟨rfl, h2, h3⟩ := tmOf_some.1 h
    by_cases ho : m.po = true ∨ m.qo = true
    · exact .inr ⟨m, rfl, h2, h3, ho, by simp [ho], rfl⟩
    · exact .inl (by simp [ho])

theorem st_on [Dfr] {m : Tm} (ho : m.po = true ∨ m.qo = true) : m.st.po = m.po ∧ m.st.qo = m.qo := by
  rcases ho with h | h
  · have h1 := Tm.st_po h
    rw [h, h1, Tm.po_qo _ h, Tm.po_qo _ h1]; exact ⟨rfl, rfl⟩
  · have h1 := Tm.st_qo h
    have e : ∀ x : Tm, x.qo = true → x.po = false := fun x hx => by
      cases hp : x.po with
      | false => rfl
      | true => rw [Tm.po_qo _ hp] at hx; cases hx
    rw [h, h1, e _ h, e _ h1]; exact ⟨rfl, rfl⟩

end Go.Proofs.YtdbabacjmkfkgaaDoor.Sv
