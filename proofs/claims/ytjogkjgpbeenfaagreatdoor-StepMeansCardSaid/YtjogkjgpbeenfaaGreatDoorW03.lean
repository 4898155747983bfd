/- What the functions of rows compute (redressref03): in plain words. -/
import Derived.Test.YtjogkjgpbeenfaaGreatDoorW00
import Derived.Test.YtjogkjgpbeenfaaGreatDoorM2
import Derived.Lib.SlTrimSet
namespace Go.Proofs.YtjogkjgpbeenfaaGreatDoor.Sv
open Go Go.Sv Go.Rd
set_option linter.unusedVariables false
set_option linter.unusedSimpArgs false
theorem zlj [Dfr] (k : Int) : zsq k = some (arI k) := by
  rw [qrv]
  by_cases h1 : k = 1; · subst h1; rfl
  by_cases h2 : k = 2; · subst h2; rfl
  by_cases h3 : k = 3; · subst h3; rfl
  by_cases h4 : k = 4; · subst h4; rfl
  by_cases h5 : k = 5; · subst h5; rfl
  by_cases h6 : k = 6; · subst h6; rfl
  by_cases h7 : k = 7; · subst h7; rfl
  by_cases h8 : k = 8; · subst h8; rfl
  by_cases h9 : k = 9; · subst h9; rfl
  by_cases h10 : k = 10; · subst h10; rfl
  by_cases h11 : k = 11; · subst h11; rfl
  by_cases h12 : k = 12; · subst h12; rfl
  by_cases h13 : k = 13; · subst h13; rfl
  by_cases h14 : k = 14; · subst h14; rfl
  have e : ∀ c : Int, ¬ k = c → (k == c) = false := fun c h => beq_false_of_ne h
  simp only [e _ h1, e _ h2, e _ h3, e _ h4, e _ h5, e _ h6, e _ h7, e _ h8, e _ h9, e _ h10, e _ h11, e _ h12, e _ h13, e _ h14, cond_false]
  simp [arI, ar, *]
def wk (l : List Nd) (at_ : Nat) : Int × Int := match P (l.drop at_) with | some (t, r) => (((at_ + t.size : Nat) : Int), (t.depth : Int)) | none => (-1, 0)
theorem qzq [Dfr] (l : List Nd) (hl : l.length ≤ 4611686018427387904) : ∀ (n i : Nat), l.length - i ≤ n → i ≤ l.length → zwp l (i : Int) = some (wk l i) := by
  intro n
  induction n with
  | zero =>
    intro i hn hi
    have h1 : l.drop i = [] := List.drop_eq_nil_of_le (by omega)
    have h2 : decide ((i : Int) ≥ (l.length : Int)) = true := decide_eq_true (by omega)
    rw [zye]
    simp only [h2, cond_true, wk, h1, yyn]
  | succ n ih =>
    intro i hn hi
    cases hd : l.drop i with
    | nil =>
      have h2 : decide ((i : Int) ≥ (l.length : Int)) = true := decide_eq_true (by have := (drop_nil hd).1; omega)
      rw [zye]
      simp only [h2, cond_true, wk, hd, yyn]
    | cons x r =>
      obtain ⟨h1, h2, h3, h4, h5, h6⟩ := zad hd
      have h7 : decide ((i : Int) ≥ (l.length : Int)) = false := decide_eq_false (by omega)
      have hs : w64 ((i : Int) + 1) = ((i + 1 : Nat) : Int) := zcf (by omega)
      have hk := ih (i + 1) (by omega) (by omega)
      have hP := ytw x r
      rw [← hd] at hP
      rw [zye]
      simp only [h7, cond_false, h3, cond_true, h4, zlj, Option.bind_some, hs]
      rw [zjh]
      simp only [h3, cond_true, h4, zlj, Option.bind_some]
      unfold wk
      rw [hP]
      cases ha : ar x.1 with
      | none => simp only [arI, ha]; rfl
      | some m =>
        have hm := yom ha
        have e1 : arI x.1 = (m : Int) := by simp [arI, ha]
        have e2 : decide ((m : Int) < 0) = false := decide_eq_false (by omega)
        simp only [e1, e2, cond_false]
        rcases m with _ | _ | _ | m
        · rfl
        · simp only [show decide ((0 : Int) < ((0 + 1 : Nat) : Int)) = true from rfl, cond_true, hk, Option.bind_some]
          unfold wk
          rw [h5]
          cases hp : P r with
          | none => rfl
          | some q =>
            obtain ⟨a, l1⟩ := q
            have hda := a.qqk
            have g1 : decide (((i + 1 + a.size : Nat) : Int) < 0) = false := decide_eq_false (by omega)
            have g2 : decide ((a.depth : Int) > 0) = true := decide_eq_true (by omega)
            simp only [g1, g2, cond_true, cond_false]
            rw [zjh]
            have g3 : decide (w64 (0 + 1) < ((0 + 1 : Nat) : Int)) = false := rfl
            have hds := a.qct
            have hsz := (qcb hp).2
            have hln := congrArg List.length hsz
            rw [List.length_append, T.zac] at hln
            simp only [h3, cond_true, h4, zlj, Option.bind_some, e1, g3, cond_false, T.size, T.depth]
            simp only [zcf (show a.depth < 9223372036854775807 by omega), Nat.beq_refl, cond_true]
            congr 3; omega
        · simp only [show decide ((0 : Int) < ((0 + 1 + 1 : Nat) : Int)) = true from rfl, cond_true, hk, Option.bind_some]
          unfold wk
          rw [h5]
          cases hp : P r with
          | none => rfl
          | some q =>
            obtain ⟨a, l1⟩ := q
            have hda := a.qqk
            have g1 : decide (((i + 1 + a.size : Nat) : Int) < 0) = false := decide_eq_false (by omega)
            have g2 : decide ((a.depth : Int) > 0) = true := decide_eq_true (by omega)
            have hsz := (qcb hp).2
            have hln := congrArg List.length hsz
            rw [List.length_append, T.zac] at hln
            have hd2 : l.drop (i + 1 + a.size) = l1 := by rw [← List.drop_drop, h5, hsz, List.drop_append_of_le_length (by simp [T.zac]), ← T.zac, List.drop_length, List.nil_append]
            have hk2 := ih (i + 1 + a.size) (by omega) (by omega)
            have hds := a.qct
            simp only [g1, g2, cond_true, cond_false]
            rw [zjh]
            have g3 : decide (w64 (0 + 1) < ((0 + 1 + 1 : Nat) : Int)) = true := rfl
            simp only [h3, cond_true, h4, zlj, Option.bind_some, e1, g3, hk2]
            unfold wk
            rw [hd2]
            cases hp2 : P l1 with
            | none => rfl
            | some q2 =>
              obtain ⟨b, l2⟩ := q2
              have hdb := b.qqk
              have hdsb := b.qct
              have hsz2 := (qcb hp2).2
              have hln2 := congrArg List.length hsz2
              rw [List.length_append, T.zac] at hln2
              have g4 : decide (((i + 1 + a.size + b.size : Nat) : Int) < 0) = false := decide_eq_false (by omega)
              simp only [g4, cond_false]
              have g5 : decide (w64 (w64 (0 + 1) + 1) < ((0 + 1 + 1 : Nat) : Int)) = false := rfl
              by_cases hc : a.depth < b.depth
              · have g6 : decide ((b.depth : Int) > (a.depth : Int)) = true := decide_eq_true (by omega)
                simp only [g6, cond_true]
                rw [zjh]
                simp only [h3, cond_true, h4, zlj, Option.bind_some, e1, g5, cond_false, T.size, T.depth, zcf (show b.depth < 9223372036854775807 by omega), Nat.beq_refl]
                rw [show max a.depth b.depth = b.depth by omega]
                congr 3; omega
              · have g6 : decide ((b.depth : Int) > (a.depth : Int)) = false := decide_eq_false (by omega)
                simp only [g6, cond_false]
                rw [zjh]
                simp only [h3, cond_true, h4, zlj, Option.bind_some, e1, g5, cond_false, T.size, T.depth, zcf (show a.depth < 9223372036854775807 by omega), Nat.beq_refl]
                rw [show max a.depth b.depth = a.depth by omega]
                congr 3; omega
        · omega
def sz (l : List Nd) : Nat := match P l with | some (t, _) => t.size | none => 0
def dep (l : List Nd) : Nat := match P l with | some (t, _) => t.depth | none => 0
theorem qwi [Dfr] (l : List Nd) (hl : l.length ≤ 4611686018427387904) : zyf l = some (dep l : Int) := by
  rw [qru]
  have := qzq l hl l.length 0 (by omega) (by omega)
  rw [show ((0 : Nat) : Int) = 0 from rfl] at this
  simp only [this, Option.bind_some, wk, List.drop_zero, dep]
  cases P l with
  | none => rfl
  | some q => rfl
theorem qke [Dfr] (xs ys : List Nd) (hx : xs.length ≤ 4611686018427387904) (hl : xs.length = ys.length) (b : Bool) : ∀ (r : List Nd) (i : Nat), xs.drop i = r → znu xs ys b (i : Int) = some (if r = ys.drop i then (0, b) else (1, false))
  | [], i, h => by
    rw [zzd]
    obtain ⟨h1, h2⟩ := drop_nil h
    simp only [h2, cond_false, List.drop_eq_nil_of_le (show ys.length ≤ i by omega), if_true]
  | x :: r, i, h => by
    rw [zzd]
    obtain ⟨h1, h2, h3, h4, h5, h6⟩ := zad h
    cases hy : ys.drop i with
    | nil => have := List.drop_eq_nil_iff.1 hy; omega
    | cons y s =>
      obtain ⟨k1, k2, k3, k4, k5, k6⟩ := zad hy
      simp only [h2, h3, h4, k3, k4, cond_true, yxs, zcf (show i < 9223372036854775807 by omega), qke xs ys hx hl b r (i + 1) h5, k5]
      by_cases e : x = y
      · simp [e]
      · simp [e]
theorem zuf [Dfr] (xs ys : List Nd) (hx : xs.length ≤ 4611686018427387904) : zhx xs ys = some (decide (xs = ys)) := by
  rw [qwh]
  by_cases hl : xs.length = ys.length
  · have h1 : ((xs.length : Int) != (ys.length : Int)) = false := by simp [hl]
    have := qke xs ys hx hl false xs 0 rfl
    rw [show ((0 : Nat) : Int) = 0 from rfl, List.drop_zero] at this
    simp only [h1, cond_false, this, Option.bind_some]
    by_cases e : xs = ys <;> simp [e, Nat.beq]
  · have h1 : ((xs.length : Int) != (ys.length : Int)) = true := by simp; omega
    have h2 : xs ≠ ys := fun e => hl (by rw [e])
    simp [h1, h2]
theorem ybh [Dfr] : (⟨#[]⟩ : ByteArray) = ByteArray.empty := rfl
theorem yze [Dfr] {l : List Nd} : one l = decide (sz l = l.length ∧ 1 ≤ l.length) := by
  unfold one sz
  cases h : P l with
  | none =>
    by_cases h1 : l.length = 0
    · simp [h1]
    · simp; omega
  | some q =>
    obtain ⟨t, r⟩ := q
    obtain ⟨h1, h2⟩ := qcb h
    have := congrArg List.length h2
    rw [List.length_append, T.zac] at this
    have hp := t.zes
    cases r with
    | nil => simp at this ⊢; omega
    | cons x r => simp at this ⊢; omega
def zng (l : List Nd) : List (List Nd) := match P l with | some (t, _) => t.kids.map T.row | none => []
theorem zrf [Dfr] {l : List Nd} {i : Nat} {a : T} {r : List Nd} (h : l.drop i = a.row ++ r) : cut l (i : Int) ((i + a.size : Nat) : Int) = a.row ∧ l.drop (i + a.size) = r ∧ i + a.size ≤ l.length ∧ zdh (i : Int) ((i + a.size : Nat) : Int) l.length = true := by
  have hlen := congrArg List.length h
  rw [List.length_drop, List.length_append, T.zac] at hlen
  have hp := a.zes
  refine ⟨?_, ?_, by omega, zqd (by omega) (by omega)⟩
  · rw [qbs, List.drop_take, h]
    rw [show i + a.size - i = a.row.length by rw [T.zac]; omega, List.take_left]
  · rw [← List.drop_drop, h, ← T.zac, List.drop_left]
theorem qxe [Dfr] (m : Tm) : zng m.row = m.t.kids.map T.row := by
  unfold zng
  rw [show P m.row = some (m.t, []) from qrb m.t_ok]
end Go.Proofs.YtjogkjgpbeenfaaGreatDoor.Sv
