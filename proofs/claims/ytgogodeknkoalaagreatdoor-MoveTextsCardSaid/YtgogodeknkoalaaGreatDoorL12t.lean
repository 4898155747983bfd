/- MoveTexts: what it tells. -/
import Derived.Test.YtgogodeknkoalaaGreatDoorL12
namespace Go.Proofs.YtgogodeknkoalaaGreatDoor.Sv
open Go Go.Sv Go.Rd
set_option linter.unusedVariables false
set_option linter.unusedSimpArgs false
theorem tmod_abs [Dfr] (n : Int) : (n.tmod 10 = ((n.natAbs % 10 : Nat) : Int) ∧ n.tdiv 10 = ((n.natAbs / 10 : Nat) : Int)) ∨ (n.tmod 10 = -((n.natAbs % 10 : Nat) : Int) ∧ n.tdiv 10 = -((n.natAbs / 10 : Nat) : Int)) := by
  cases n with
  | ofNat m => exact .inl ⟨rfl, rfl⟩
  | negSucc m => exact .inr ⟨rfl, rfl⟩
def tenB : ByteArray := ⟨#[48, 49, 50, 51, 52, 53, 54, 55, 56, 57]⟩
theorem digit_piece [Dfr] : ∀ d : Nat, d < 10 → tenB.extract d (d + 1) = ⟨#[UInt8.ofNat (48 + d)]⟩
  | 0, _ => by decide
  | 1, _ => by decide
  | 2, _ => by decide
  | 3, _ => by decide
  | 4, _ => by decide
  | 5, _ => by decide
  | 6, _ => by decide
  | 7, _ => by decide
  | 8, _ => by decide
  | 9, _ => by decide
  | d + 10, h => by omega
theorem ba_app [Dfr] (a b : List UInt8) : (⟨a.toArray⟩ : ByteArray) ++ ⟨b.toArray⟩ = ⟨(a ++ b).toArray⟩ := by
  apply ByteArray.ext
  simp
theorem digits_l0s [Dfr] : ∀ (u : Nat) (n : Int) (y2 out sg : ByteArray), n.natAbs = u → u ≤ 9223372036854775808 → sg.size ≤ 10 → out.size + (Lib.decDigits u).length ≤ 1000 →
    ref12_Digits_l0 n y2 tenB out sg = some (0, sg ++ ((⟨(Lib.decDigits u).toArray⟩ : ByteArray) ++ out)) := by
  intro u
  induction u using Nat.strongRecOn with
  | _ u ih =>
    intro n y2 out sg hn hu hsg hout
    have hd : u % 10 < 10 := Nat.mod_lt _ (by decide)
    have hp := digit_piece (u % 10) hd
    have hps : (⟨#[UInt8.ofNat (48 + u % 10)]⟩ : ByteArray).size = 1 := rfl
    have hlen1 : 1 ≤ (Lib.decDigits u).length := by rw [Lib.decDigits_length]; exact Lib.nDigits_pos u
    have hco : cutOk ((u % 10 : Nat) : Int) ((u % 10 + 1 : Nat) : Int) tenB.size = true := cutOk_nat (by omega) (show u % 10 + 1 ≤ 10 by omega)
    have hws : w64 (((u % 10 : Nat) : Int) + 1) = ((u % 10 + 1 : Nat) : Int) := w_succ (by omega)
    have hb1 : decide ((⟨#[UInt8.ofNat (48 + u % 10)]⟩ : ByteArray).size + out.size ≤ 9223372036854775807) = true := decide_eq_true (by rw [hps]; omega)
    have hb2 : decide (sg.size + ((⟨#[UInt8.ofNat (48 + u % 10)]⟩ : ByteArray) ++ out).size ≤ 9223372036854775807) = true := decide_eq_true (by rw [ByteArray.size_append, hps]; omega)
    have hq : w64 (n.tdiv 10) = n.tdiv 10 := by
      rcases tmod_abs n with ⟨_, h⟩ | ⟨_, h⟩ <;> rw [h, hn] <;> exact w64_id (by omega) (by omega)
    have hnat : (n.tdiv 10).natAbs = u / 10 := by
      rcases tmod_abs n with ⟨_, h⟩ | ⟨_, h⟩ <;> rw [h, hn] <;> omega
    have fin : (bif (w64 (n.tdiv 10)) == 0 then (bif decide (sg.size + ((⟨#[UInt8.ofNat (48 + u % 10)]⟩ : ByteArray) ++ out).size ≤ 9223372036854775807) then some ((0 : Nat), sg ++ ((⟨#[UInt8.ofNat (48 + u % 10)]⟩ : ByteArray) ++ out)) else none) else ref12_Digits_l0 (w64 (n.tdiv 10)) y2 tenB ((⟨#[UInt8.ofNat (48 + u % 10)]⟩ : ByteArray) ++ out) sg) = some (0, sg ++ ((⟨(Lib.decDigits u).toArray⟩ : ByteArray) ++ out)) := by
      rw [hq]
      by_cases h10 : u < 10
      · have h0 : n.tdiv 10 = 0 := by
          have : (n.tdiv 10).natAbs = 0 := by rw [hnat]; omega
          omega
        have e : u % 10 = u := Nat.mod_eq_of_lt h10
        rw [h0, show ((0 : Int) == 0) = true from rfl, cond_true, hb2, cond_true, Lib.decDigits_one h10, e]
      · have h0 : (n.tdiv 10 == 0) = false := by
          rw [beq_eq_false_iff_ne]
          intro h
          rw [h] at hnat
          have : u / 10 = 0 := hnat.symm
          omega
        have hdec : Lib.decDigits u = Lib.decDigits (u / 10) ++ [UInt8.ofNat (48 + u % 10)] := by rw [Lib.decDigits, dif_neg h10]
        have hl := congrArg List.length hdec
        rw [List.length_append] at hl
        simp only [List.length_cons, List.length_nil] at hl
        rw [h0, cond_false, ih (u / 10) (by omega) (n.tdiv 10) y2 _ sg hnat (by omega) hsg (by rw [ByteArray.size_append, hps]; omega), hdec, ← ba_app, ByteArray.append_assoc]
    rw [ref12_Digits_l0_eq]
    by_cases htm : n.tmod 10 < 0
    · have hw : w64 (0 - n.tmod 10) = ((u % 10 : Nat) : Int) := by
        rcases tmod_abs n with ⟨h, _⟩ | ⟨h, _⟩
        · rw [h] at htm; omega
        · rw [h, hn, w64_id (by omega) (by omega)]; omega
      rw [decide_eq_true htm, cond_true, hw, hws, hco, cond_true]
      simp only [Int.toNat_natCast, hp]
      rw [hb1, cond_true]
      exact fin
    · have hw : n.tmod 10 = ((u % 10 : Nat) : Int) := by
        rcases tmod_abs n with ⟨h, _⟩ | ⟨h, _⟩
        · rw [h, hn]
        · rw [h, hn] at htm ⊢; omega
      rw [decide_eq_false htm, cond_false, hw, hws, hco, cond_true]
      simp only [Int.toNat_natCast, hp]
      rw [hb1, cond_true]
      exact fin
theorem ref12_Digits_s [Dfr] (n : Int) (h0 : -9223372036854775808 ≤ n) (h1 : n ≤ 9223372036854775807) : ref12_Digits n = some (itoaB n) := by
  have hl := Lib.itoa_length_le n h0 h1
  have e0 : (⟨#[]⟩ : ByteArray).size = 0 := rfl
  have e1 : (⟨#[45]⟩ : ByteArray).size = 1 := rfl
  have app0 : ∀ l : List UInt8, (⟨l.toArray⟩ : ByteArray) ++ ⟨#[]⟩ = ⟨l.toArray⟩ := fun l => (ba_app l []).trans (by rw [List.append_nil])
  rw [ref12_Digits_eq]
  unfold itoaB
  unfold Lib.itoa at hl ⊢
  by_cases hn : n < 0
  · rw [if_pos hn] at hl ⊢
    simp only [List.length_cons] at hl
    rw [decide_eq_true hn, cond_true]
    have := digits_l0s n.natAbs n ⟨#[]⟩ ⟨#[]⟩ ⟨#[45]⟩ rfl (by omega) (by rw [e1]; omega) (by rw [e0]; omega)
    unfold tenB at this
    rw [this, Option.bind_some, app0]
    exact congrArg some (ba_app [45] (Lib.decDigits n.natAbs))
  · rw [if_neg hn] at hl ⊢
    rw [decide_eq_false hn, cond_false]
    have e : n.natAbs = n.toNat := by omega
    have := digits_l0s n.toNat n ⟨#[]⟩ ⟨#[]⟩ ⟨#[]⟩ e (by omega) (by rw [e0]; omega) (by rw [e0]; omega)
    unfold tenB at this
    rw [this, Option.bind_some, app0]
    exact congrArg some (ba_app [] (Lib.decDigits n.toNat))
theorem itoaB_size [Dfr] (n : Int) (h0 : -9223372036854775808 ≤ n) (h1 : n ≤ 9223372036854775807) : (itoaB n).size ≤ 21 := by
  have := Lib.itoa_length_le n h0 h1
  show (Lib.itoa n).toArray.size ≤ 21
  rw [List.size_toArray]; exact this
theorem word_s [Dfr] (h : Int) : ref12_word h = some (wordB h) := by
  rw [ref12_word_eq]
  unfold wordB
  by_cases h1 : h = 1
  · subst h1; rfl
  by_cases h2 : h = 2
  · subst h2; rfl
  by_cases h3 : h = 3
  · subst h3; rfl
  by_cases h4 : h = 4
  · subst h4; rfl
  by_cases h5 : h = 5
  · subst h5; rfl
  rw [if_neg h1, if_neg h2, if_neg h3, if_neg h4, if_neg h5, show (h == 1) = false by rw [beq_eq_false_iff_ne]; exact h1, show (h == 2) = false by rw [beq_eq_false_iff_ne]; exact h2, show (h == 3) = false by rw [beq_eq_false_iff_ne]; exact h3, show (h == 4) = false by rw [beq_eq_false_iff_ne]; exact h4, show (h == 5) = false by rw [beq_eq_false_iff_ne]; exact h5]
  rfl
theorem ref12_Text_s [Dfr] (m : Mv) (h0 : -9223372036854775808 ≤ m.1) (h1 : m.1 ≤ 9223372036854775807) : ref12_Text m = text_spec m := by
  have hz := itoaB_size m.1 h0 h1
  rw [ref12_Text_eq, word_s, Option.bind_some]
  unfold text_spec
  by_cases h : 1 ≤ m.2 ∧ m.2 ≤ 5
  · rw [if_pos h, if_pos ⟨h0, h1⟩]
    have hw : 1 ≤ (wordB m.2).size ∧ (wordB m.2).size ≤ 5 := by
      have h5 : m.2 = 1 ∨ m.2 = 2 ∨ m.2 = 3 ∨ m.2 = 4 ∨ m.2 = 5 := by omega
      rcases h5 with e | e | e | e | e <;> rw [e] <;> decide
    have e0 : ((wordB m.2).toList == (⟨#[]⟩ : ByteArray).toList) = false := by
      rw [str_eq]
      refine decide_eq_false fun h => ?_
      rw [h] at hw
      exact absurd hw.1 (by decide)
    have e1 : (⟨#[32]⟩ : ByteArray).size = 1 := rfl
    rw [e0, cond_false, Option.bind_some, decide_eq_true (show (wordB m.2).size + (⟨#[32]⟩ : ByteArray).size ≤ 9223372036854775807 by rw [e1]; omega), cond_true, ref12_Digits_s m.1 h0 h1, Option.bind_some,
      decide_eq_true (show (wordB m.2 ++ (⟨#[32]⟩ : ByteArray)).size + (itoaB m.1).size ≤ 9223372036854775807 by rw [ByteArray.size_append, e1]; omega), cond_true]
  · rw [if_neg h]
    have e : wordB m.2 = ⟨#[]⟩ := by
      unfold wordB
      rw [if_neg (by omega), if_neg (by omega), if_neg (by omega), if_neg (by omega), if_neg (by omega)]
    rw [e, str_eq, decide_eq_true rfl, cond_true]
theorem law12_MoveTexts_true [Dfr] [HasOver] [HasWays] [HasText] (m : Mv) (hm : (Ty.pair (.int .i64) (.int .i64)).wf m) : law12_MoveTexts m = some true := by
  have h64 : -9223372036854775808 ≤ m.1 ∧ m.1 ≤ 9223372036854775807 := by
    have h : (Lit.int .i64 m.1).wf = true := hm.1
    simp [Lit.wf, IntKind.min, IntKind.max, IntKind.signed, IntKind.bits] at h
    exact h
  obtain ⟨r, hr⟩ : ∃ r, text_spec m = some r := by
    unfold text_spec
    split
    · exact ⟨_, rfl⟩
    · exact ⟨_, rfl⟩
  rw [law12_MoveTexts_eq, law12_alive_s, Option.bind_some, cond_true, move_Text_s, ref12_Text_s m h64.1 h64.2, hr]
  simp only [Option.bind_some, beq_self_eq_true]
end Go.Proofs.YtgogodeknkoalaaGreatDoor.Sv
