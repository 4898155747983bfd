/- The reference's sets, of many traces. -/
import Derived.Test.YtjogkjgpbeenfaaGreatDoorW02
namespace Go.Proofs.YtjogkjgpbeenfaaGreatDoor.Sv
open Go Go.Sv Go.Rd
set_option linter.unusedVariables false
set_option linter.unusedSimpArgs false
theorem zhy [Dfr] (a b : List Tc) (ha : a.length ≤ 200000000000) (hb : b.length ≤ 200000000000) (sa : zpq a) (sb : zpq b) : ∀ (n : Nat) (r s : List Tc) (i j : Nat) (acc : List Tc), r.length + s.length ≤ n → a.drop i = r → b.drop j = s → i ≤ a.length → j ≤ b.length → acc.length ≤ i + j →
    zbc a b acc (i : Int) (j : Int) = some (0, acc ++ znd cmpT r s)
  | n, [], [], i, j, acc, hn, h, k, hi, hj, hc => by
    obtain ⟨h1, h2⟩ := drop_nil h
    obtain ⟨k1, k2⟩ := drop_nil k
    rw [zlk, znd]
    simp only [h2, k2, cond_false, List.append_nil]
  | 0, [], y :: s, i, j, acc, hn, h, k, hi, hj, hc => by simp at hn
  | 0, x :: r, s, i, j, acc, hn, h, k, hi, hj, hc => by simp at hn
  | n + 1, [], y :: s, i, j, acc, hn, h, k, hi, hj, hc => by
    obtain ⟨h1, h2⟩ := drop_nil h
    obtain ⟨k1, k2, k3, k4, k5, k6⟩ := zad k
    have e : ((i : Int) == (a.length : Int)) = true := by simp; omega
    have ih := zhy a b ha hb sa sb n [] s i (j + 1) (acc ++ [y]) (by simp at hn ⊢; omega) h k5 hi (by omega) (by simp; omega)
    rw [zlk, znd]
    simp only [h2, k2, k3, k4, cond_true, cond_false, e, room (show (acc.length + 1) * 32 ≤ 140737488355328 by omega), zcf (show j < 9223372036854775807 by omega), ih]
    cases s <;> simp [znd]
  | n + 1, x :: r, [], i, j, acc, hn, h, k, hi, hj, hc => by
    obtain ⟨h1, h2, h3, h4, h5, h6⟩ := zad h
    obtain ⟨k1, k2⟩ := drop_nil k
    have e : ((i : Int) == (a.length : Int)) = false := by simp; omega
    have ih := zhy a b ha hb sa sb n r [] (i + 1) j (acc ++ [x]) (by simp at hn ⊢; omega) h5 k (by omega) hj (by simp; omega)
    rw [zlk, znd]
    simp only [h2, h3, h4, k2, cond_true, cond_false, e, room (show (acc.length + 1) * 32 ≤ 140737488355328 by omega), zcf (show i < 9223372036854775807 by omega), ih]
    cases r <;> simp [znd]
  | n + 1, x :: r, y :: s, i, j, acc, hn, h, k, hi, hj, hc => by
    obtain ⟨h1, h2, h3, h4, h5, h6⟩ := zad h
    obtain ⟨k1, k2, k3, k4, k5, k6⟩ := zad k
    have e : ((i : Int) == (a.length : Int)) = false := by simp; omega
    have mx : x ∈ a := List.mem_of_mem_drop (by rw [h]; exact List.mem_cons_self ..)
    have my : y ∈ b := List.mem_of_mem_drop (by rw [k]; exact List.mem_cons_self ..)
    have wi := zcf (show i < 9223372036854775807 by omega)
    have wj := zcf (show j < 9223372036854775807 by omega)
    have rm := room (show (acc.length + 1) * 32 ≤ 140737488355328 by omega)
    rw [zlk, znd]
    simp only [h2, h3, h4, k2, k3, k4, cond_true, cond_false, e, qar x y (sa x mx) (sb y my), Option.bind_some, rm, wi, wj]
    simp only [List.length_cons] at hn
    cases hcm : cmpT x y with
    | lt =>
      have ih := zhy a b ha hb sa sb n r (y :: s) (i + 1) j (acc ++ [x]) (by simp only [List.length_cons]; omega) h5 k (by omega) hj (by simp; omega)
      rw [List.append_assoc, List.singleton_append] at ih
      exact ih
    | eq =>
      have ih := zhy a b ha hb sa sb n r s (i + 1) (j + 1) (acc ++ [x]) (by omega) h5 k5 (by omega) (by omega) (by simp; omega)
      rw [List.append_assoc, List.singleton_append] at ih
      exact ih
    | gt =>
      have ih := zhy a b ha hb sa sb n (x :: r) s i (j + 1) (acc ++ [y]) (by simp only [List.length_cons]; omega) h k5 hi (by omega) (by simp; omega)
      rw [List.append_assoc, List.singleton_append] at ih
      exact ih
theorem qwj [Dfr] (a b : List Tc) (ha : a.length ≤ 200000000000) (hb : b.length ≤ 200000000000) (sa : zpq a) (sb : zpq b) : zyg a b = some (znd cmpT a b) := by
  have e := zhy a b ha hb sa sb (a.length + b.length) a b 0 0 [] (Nat.le_refl _) rfl rfl (by omega) (by omega) (by simp)
  rw [Int.natCast_zero] at e
  rw [qrw, e]
  rfl
theorem qep [Dfr] : ∀ (n : Nat) (l : List Tc), l.length ≤ n → l.length ≤ 200000000000 → zpq l → zwr l = some (canon cmpT l)
  | 0, l, hn, hl, hs => by
    have : l = [] := List.length_eq_zero_iff.1 (by omega)
    subst this
    rw [qkf]; rfl
  | n + 1, l, hn, hl, hs => by
    rw [qkf]
    by_cases h2 : l.length < 2
    · rw [decide_eq_true (show (l.length : Int) < 2 by omega), cond_true]
      match l, h2 with
      | [], _ => rfl
      | [x], _ => rfl
    · rw [decide_eq_false (show ¬ (l.length : Int) < 2 by omega), cond_false]
      have hd : w64 ((l.length : Int).tdiv 2) = ((l.length / 2 : Nat) : Int) := by
        rw [Int.tdiv_eq_ediv_of_nonneg (by omega)]
        exact zqz (by omega) (by omega)
      rw [hd, yit (show l.length / 2 ≤ l.length by omega), cond_true, yrz, qqn, zqd (show l.length / 2 ≤ l.length by omega) (Nat.le_refl _)]
      simp only [cond_true]
      have h3 : (l.take (l.length / 2)).length ≤ n := by rw [List.length_take]; omega
      have h4 : (l.drop (l.length / 2)).length ≤ n := by rw [List.length_drop]; omega
      have s3 : zpq (l.take (l.length / 2)) := fun x hx => hs x (List.mem_of_mem_take hx)
      have s4 : zpq (l.drop (l.length / 2)) := fun x hx => hs x (List.mem_of_mem_drop hx)
      have l3 := zax (c := cmpT) (l.take (l.length / 2))
      have l4 := zax (c := cmpT) (l.drop (l.length / 2))
      rw [List.length_take] at l3
      rw [List.length_drop] at l4
      rw [qep n _ h3 (by rw [List.length_take]; omega) s3, Option.bind_some, qep n _ h4 (by rw [List.length_drop]; omega) s4, Option.bind_some,
        qwj _ _ (by omega) (by omega) (qoa s3) (qoa s4), Option.bind_some, yap ordT, List.take_append_drop]
end Go.Proofs.YtjogkjgpbeenfaaGreatDoor.Sv
