/- What the functions of package slices compute, at each type of elements: in plain words. Printed by a program (mk00.py). -/
import Derived.Test.YtjogkjgpbeenfaaGreatDoorSvTop
import Derived.Test.YtjogkjgpbeenfaaGreatDoorM1
namespace Go.Proofs.YtjogkjgpbeenfaaGreatDoor.Sv
open Go Go.Sv Go.Rd
set_option linter.unusedVariables false
set_option linter.unusedSimpArgs false
theorem yxs [Dfr] (t u : Nd) : ((t.1 == u.1) && ((t.2.1.toList == u.2.1.toList) && (t.2.2 == u.2.2))) = decide (t = u) := by
  have h := yyk t.2.1 u.2.1
  unfold bq at h
  rw [h]
  obtain ⟨a, b, c⟩ := t
  obtain ⟨a', b', c'⟩ := u
  simp only [Prod.mk.injEq]
  by_cases h1 : a = a' <;> by_cases h2 : b = b' <;> by_cases h3 : c = c' <;> simp [h1, h2, h3]
theorem yxt [Dfr] (t u : Mv) : ((t.1 == u.1) && (t.2 == u.2)) = decide (t = u) := by
  obtain ⟨a, b⟩ := t
  obtain ⟨a', b'⟩ := u
  simp only [Prod.mk.injEq]
  by_cases h1 : a = a' <;> by_cases h2 : b = b' <;> simp [h1, h2]
theorem str_eq [Dfr] (t u : ByteArray) : (t.toList == u.toList) = decide (t = u) := yyk t u
theorem int_eq [Dfr] (t u : Int) : (t == u) = decide (t = u) := by
  by_cases h : t = u <;> simp [h]
def zct {α : Type} : List (List α) → Nat
  | [] => 0
  | x :: r => x.length + zct r
theorem zuw [Dfr] {α : Type} : ∀ (l : List (List α)), zct l = l.flatten.length
  | [] => rfl
  | x :: r => by simp [zct, zuw r]
theorem zwk [Dfr] (xs : List Nd) (h : xs.length ≤ 1000000000) : zev xs = some xs := by
  rw [zvg]
  unfold zem
  rw [room (show xs.length * 32 ≤ 140737488355328 by omega)]
  rfl
theorem zxv [Dfr] (n : Nat) (hn : n ≤ 1000000000) : zgy () (n : Int) = some [] := by
  rw [zwf]
  have hw : w64 ((n : Int) - 0) = (n : Int) := by rw [Int.sub_zero]; exact qyd (by omega)
  have h1 : decide ((n : Int) < 0) = false := decide_eq_false (by omega)
  have hr : zav n 32 = true := room (by omega)
  have h3 : decide (0 ≤ (n : Int)) = true := decide_eq_true (by omega)
  simp only [hw, h1, cond_false, Int.toNat_natCast, hr, h3, Bool.and_self, cond_true]
  by_cases h0 : n = 0
  · subst h0; rfl
  · have h2 : decide ((n : Int) > 0) = true := decide_eq_true (by omega)
    have hc : zdh 0 0 n = true := by unfold zdh; simp
    simp [h2, hc, cut]
theorem zko [Dfr] (xs : List (List Nd)) (hx : zct xs ≤ 1000000000) (hn : xs.length ≤ 1000000000) : ∀ (r : List (List Nd)) (i acc : Nat), xs.drop i = r → acc + zct r ≤ 1000000000 → zcv xs (acc : Int) xs (xs.length : Int) (i : Int) = some (0, (xs, ((acc + zct r : Nat) : Int)))
  | [], i, acc, h, ha => by
    obtain ⟨h1, h2⟩ := drop_nil h
    rw [zjf]
    simp only [h2, cond_false, zct, Nat.add_zero]
  | x :: r, i, acc, h, ha => by
    obtain ⟨h1, h2, h3, h4, h5, h6⟩ := zad h
    simp only [zct] at ha
    have hw : w64 ((acc : Int) + (x.length : Int)) = ((acc + x.length : Nat) : Int) := by rw [show (acc : Int) + (x.length : Int) = ((acc + x.length : Nat) : Int) by omega]; exact qyd (by omega)
    have h7 : decide (((acc + x.length : Nat) : Int) < 0) = false := decide_eq_false (by omega)
    rw [zjf]
    simp only [h2, h3, h4, hw, h7, cond_true, cond_false, zcf (show i < 9223372036854775807 by omega), zko xs hx hn r (i + 1) (acc + x.length) h5 (by omega), zct, Nat.add_assoc]
theorem zkn [Dfr] (xs : List (List Nd)) (hn : xs.length ≤ 1000000000) : ∀ (r : List (List Nd)) (i : Nat) (acc : List Nd), xs.drop i = r → acc.length + zct r ≤ 1000000000 → zcu acc xs (xs.length : Int) (i : Int) = some (0, acc ++ r.flatten)
  | [], i, acc, h, ha => by
    obtain ⟨h1, h2⟩ := drop_nil h
    rw [zje]
    simp only [h2, cond_false, List.flatten_nil, List.append_nil]
  | x :: r, i, acc, h, ha => by
    obtain ⟨h1, h2, h3, h4, h5, h6⟩ := zad h
    simp only [zct] at ha
    rw [zje]
    simp only [h2, h3, h4, room (show (acc.length + x.length) * 32 ≤ 140737488355328 by omega), cond_true, zcf (show i < 9223372036854775807 by omega), zkn xs hn r (i + 1) (acc ++ x) h5 (by rw [List.length_append]; omega), List.flatten_cons, List.append_assoc]
theorem zve [Dfr] (xs : List (List Nd)) (hx : zct xs ≤ 1000000000) (hn : xs.length ≤ 1000000000) : zga xs = some xs.flatten := by
  rw [ztp]
  have h0 := zko xs hx hn xs 0 0 rfl (by omega)
  have h2 := zkn xs hn xs 0 [] rfl (by simpa using hx)
  simp only [Int.natCast_zero, Nat.zero_add] at h0 h2
  simp only [h0, Option.bind_some, zxv _ hx, h2, List.nil_append]
theorem zlt [Dfr] (xs ys : List Nd) (hx : xs.length ≤ 4611686018427387904) (hl : xs.length = ys.length) (b : Bool) : ∀ (r : List Nd) (i : Nat), xs.drop i = r → zdl xs ys b (xs.length : Int) (i : Int) = some (if r = ys.drop i then (0, b) else (1, false))
  | [], i, h => by
    rw [zjw]
    obtain ⟨h1, h2⟩ := drop_nil h
    simp only [h2, cond_false, List.drop_eq_nil_of_le (show ys.length ≤ i by omega), if_true]
  | x :: r, i, h => by
    rw [zjw]
    obtain ⟨h1, h2, h3, h4, h5, h6⟩ := zad h
    cases hy : ys.drop i with
    | nil => have := List.drop_eq_nil_iff.1 hy; omega
    | cons y s =>
      obtain ⟨k1, k2, k3, k4, k5, k6⟩ := zad hy
      simp only [h2, h3, h4, k3, k4, cond_true, yxs, zcf (show i < 9223372036854775807 by omega), zlt xs ys hx hl b r (i + 1) h5, k5]
      by_cases e : x = y
      · simp [e]
      · simp [e]
theorem zwh [Dfr] (xs ys : List Nd) (hx : xs.length ≤ 4611686018427387904) : zgl xs ys = some (decide (xs = ys)) := by
  rw [zvb]
  by_cases hl : xs.length = ys.length
  · have h1 : ((xs.length : Int) != (ys.length : Int)) = false := by simp [hl]
    have := zlt xs ys hx hl false xs 0 rfl
    simp only [Int.natCast_zero, List.drop_zero] at this
    simp only [h1, cond_false, this, Option.bind_some]
    by_cases e : xs = ys <;> simp [e, Nat.beq]
  · have h1 : ((xs.length : Int) != (ys.length : Int)) = true := by simp; omega
    have h2 : xs ≠ ys := fun e => hl (by rw [e])
    simp [h1, h2]
theorem zif [Dfr] (xs : List Nd) (f : FnV) (p : Nd → Bool) (b : Int) (hx : xs.length ≤ 4611686018427387904) (hp : ∀ x ∈ xs, dyn E f [.agg [.int .i64 x.1, .str x.2.1, .int .i64 x.2.2]] .bool = some (p x)) : ∀ (r : List Nd) (i : Nat), xs.drop i = r → ∃ n : Int × Int, zbs xs f b (xs.length : Int) (i : Int) = some (if r.any p then (1, n.1) else (0, b)) ∧ 0 ≤ n.1
  | [], i, h => by
    obtain ⟨h1, h2⟩ := drop_nil h
    refine ⟨(0, 0), ?_, Int.le_refl _⟩
    rw [zeq]
    simp only [h2, cond_false]
    simp
  | x :: r, i, h => by
    obtain ⟨h1, h2, h3, h4, h5, h6⟩ := zad h
    obtain ⟨n, hn, hn0⟩ := zif xs f p b hx hp r (i + 1) h5
    have hxm : x ∈ xs := by
      have : x ∈ xs.drop i := by rw [h]; exact List.mem_cons_self ..
      exact List.mem_of_mem_drop this
    have hpx := hp x hxm
    cases e : p x with
    | true =>
      refine ⟨((i : Int), 0), ?_, by simp⟩
      rw [zeq]
      simp only [h2, h3, h4, hpx, e, cond_true, Option.bind_some, List.any_cons, Bool.true_or, if_true]
    | false =>
      refine ⟨n, ?_, hn0⟩
      rw [zeq]
      simp only [h2, h3, h4, hpx, e, cond_true, cond_false, Option.bind_some, List.any_cons, Bool.false_or, zcf (show i < 9223372036854775807 by omega), hn]
theorem zoq [Dfr] (xs : List Nd) (f : FnV) (p : Nd → Bool) (hx : xs.length ≤ 4611686018427387904) (hp : ∀ x ∈ xs, dyn E f [.agg [.int .i64 x.1, .str x.2.1, .int .i64 x.2.2]] .bool = some (p x)) : zdv xs f = some (xs.any p) := by
  obtain ⟨n, hn, hn0⟩ := zif xs f p 0 hx hp xs 0 rfl
  rw [Int.natCast_zero] at hn
  rw [zof, zqj]
  simp only [hn, Option.bind_some]
  cases e : xs.any p with
  | true => simp [Nat.beq, hn0]
  | false => simp [Nat.beq]
theorem zzn [Dfr] (xs : List ByteArray) (h : xs.length ≤ 1000000000) : zhs xs = some xs := by
  rw [zxz]
  unfold zbx
  rw [room (show xs.length * 16 ≤ 140737488355328 by omega)]
  rfl
theorem qae [Dfr] (n : Nat) (hn : n ≤ 1000000000) : ziu () (n : Int) = some [] := by
  rw [zzl]
  have hw : w64 ((n : Int) - 0) = (n : Int) := by rw [Int.sub_zero]; exact qyd (by omega)
  have h1 : decide ((n : Int) < 0) = false := decide_eq_false (by omega)
  have hr : zav n 16 = true := room (by omega)
  have h3 : decide (0 ≤ (n : Int)) = true := decide_eq_true (by omega)
  simp only [hw, h1, cond_false, Int.toNat_natCast, hr, h3, Bool.and_self, cond_true]
  by_cases h0 : n = 0
  · subst h0; rfl
  · have h2 : decide ((n : Int) > 0) = true := decide_eq_true (by omega)
    have hc : zdh 0 0 n = true := by unfold zdh; simp
    simp [h2, hc, cut]
theorem zmf [Dfr] (xs : List (List ByteArray)) (hx : zct xs ≤ 1000000000) (hn : xs.length ≤ 1000000000) : ∀ (r : List (List ByteArray)) (i acc : Nat), xs.drop i = r → acc + zct r ≤ 1000000000 → zdz xs (acc : Int) xs (xs.length : Int) (i : Int) = some (0, (xs, ((acc + zct r : Nat) : Int)))
  | [], i, acc, h, ha => by
    obtain ⟨h1, h2⟩ := drop_nil h
    rw [zkm]
    simp only [h2, cond_false, zct, Nat.add_zero]
  | x :: r, i, acc, h, ha => by
    obtain ⟨h1, h2, h3, h4, h5, h6⟩ := zad h
    simp only [zct] at ha
    have hw : w64 ((acc : Int) + (x.length : Int)) = ((acc + x.length : Nat) : Int) := by rw [show (acc : Int) + (x.length : Int) = ((acc + x.length : Nat) : Int) by omega]; exact qyd (by omega)
    have h7 : decide (((acc + x.length : Nat) : Int) < 0) = false := decide_eq_false (by omega)
    rw [zkm]
    simp only [h2, h3, h4, hw, h7, cond_true, cond_false, zcf (show i < 9223372036854775807 by omega), zmf xs hx hn r (i + 1) (acc + x.length) h5 (by omega), zct, Nat.add_assoc]
theorem zme [Dfr] (xs : List (List ByteArray)) (hn : xs.length ≤ 1000000000) : ∀ (r : List (List ByteArray)) (i : Nat) (acc : List ByteArray), xs.drop i = r → acc.length + zct r ≤ 1000000000 → zdy acc xs (xs.length : Int) (i : Int) = some (0, acc ++ r.flatten)
  | [], i, acc, h, ha => by
    obtain ⟨h1, h2⟩ := drop_nil h
    rw [zkl]
    simp only [h2, cond_false, List.flatten_nil, List.append_nil]
  | x :: r, i, acc, h, ha => by
    obtain ⟨h1, h2, h3, h4, h5, h6⟩ := zad h
    simp only [zct] at ha
    rw [zkl]
    simp only [h2, h3, h4, room (show (acc.length + x.length) * 16 ≤ 140737488355328 by omega), cond_true, zcf (show i < 9223372036854775807 by omega), zme xs hn r (i + 1) (acc ++ x) h5 (by rw [List.length_append]; omega), List.flatten_cons, List.append_assoc]
theorem zxy [Dfr] (xs : List (List ByteArray)) (hx : zct xs ≤ 1000000000) (hn : xs.length ≤ 1000000000) : zhb xs = some xs.flatten := by
  rw [zwi]
  have h0 := zmf xs hx hn xs 0 0 rfl (by omega)
  have h2 := zme xs hn xs 0 [] rfl (by simpa using hx)
  simp only [Int.natCast_zero, Nat.zero_add] at h0 h2
  simp only [h0, Option.bind_some, qae _ hx, h2, List.nil_append]
theorem zmz [Dfr] (xs ys : List ByteArray) (hx : xs.length ≤ 4611686018427387904) (hl : xs.length = ys.length) (b : Bool) : ∀ (r : List ByteArray) (i : Nat), xs.drop i = r → zel xs ys b (xs.length : Int) (i : Int) = some (if r = ys.drop i then (0, b) else (1, false))
  | [], i, h => by
    rw [zls]
    obtain ⟨h1, h2⟩ := drop_nil h
    simp only [h2, cond_false, List.drop_eq_nil_of_le (show ys.length ≤ i by omega), if_true]
  | x :: r, i, h => by
    rw [zls]
    obtain ⟨h1, h2, h3, h4, h5, h6⟩ := zad h
    cases hy : ys.drop i with
    | nil => have := List.drop_eq_nil_iff.1 hy; omega
    | cons y s =>
      obtain ⟨k1, k2, k3, k4, k5, k6⟩ := zad hy
      simp only [h2, h3, h4, k3, k4, cond_true, str_eq, zcf (show i < 9223372036854775807 by omega), zmz xs ys hx hl b r (i + 1) h5, k5]
      by_cases e : x = y
      · simp [e]
      · simp [e]
theorem zzm [Dfr] (xs ys : List ByteArray) (hx : xs.length ≤ 4611686018427387904) : zlw xs ys = some (decide (xs = ys)) := by
  rw [zxw]
  by_cases hl : xs.length = ys.length
  · have h1 : ((xs.length : Int) != (ys.length : Int)) = false := by simp [hl]
    have := zmz xs ys hx hl false xs 0 rfl
    simp only [Int.natCast_zero, List.drop_zero] at this
    simp only [h1, cond_false, this, Option.bind_some]
    by_cases e : xs = ys <;> simp [e, Nat.beq]
  · have h1 : ((xs.length : Int) != (ys.length : Int)) = true := by simp; omega
    have h2 : xs ≠ ys := fun e => hl (by rw [e])
    simp [h1, h2]
theorem zmx [Dfr] (xs : List ByteArray) (a : ByteArray) (b : Int) (hx : xs.length ≤ 4611686018427387904) : ∀ (r : List ByteArray) (i : Nat), xs.drop i = r → ∃ n : Int × Int, zej xs a b (xs.length : Int) (i : Int) = some (if a ∈ r then (1, n.1) else (0, b)) ∧ 0 ≤ n.1
  | [], i, h => by
    obtain ⟨h1, h2⟩ := drop_nil h
    refine ⟨(0, 0), ?_, Int.le_refl _⟩
    rw [zgr]
    simp only [h2, cond_false]
    simp
  | x :: r, i, h => by
    obtain ⟨h1, h2, h3, h4, h5, h6⟩ := zad h
    obtain ⟨n, hn, hn0⟩ := zmx xs a b hx r (i + 1) h5
    by_cases e : a = x
    · refine ⟨((i : Int), 0), ?_, by simp⟩
      rw [zgr]
      simp only [h2, h3, h4, cond_true, str_eq, e]
      simp
    · refine ⟨n, ?_, hn0⟩
      rw [zgr]
      simp only [h2, h3, h4, cond_true, str_eq, zcf (show i < 9223372036854775807 by omega), hn, decide_eq_false e, decide_eq_false (Ne.symm e), cond_false]
      simp [e]
theorem zvc [Dfr] (xs : List ByteArray) (a : ByteArray) (hx : xs.length ≤ 4611686018427387904) : zfz xs a = some (decide (a ∈ xs)) := by
  obtain ⟨n, hn, hn0⟩ := zmx xs a 0 hx xs 0 rfl
  rw [Int.natCast_zero] at hn
  rw [ztm, zxt]
  simp only [hn, Option.bind_some]
  by_cases e : a ∈ xs
  · simp [e, Nat.beq, hn0]
  · simp [e, Nat.beq]
theorem zpm [Dfr] (xs : List Int) (a : Int) (b : Int) (hx : xs.length ≤ 4611686018427387904) : ∀ (r : List Int) (i : Nat), xs.drop i = r → ∃ n : Int × Int, zfu xs a b (xs.length : Int) (i : Int) = some (if a ∈ r then (1, n.1) else (0, b)) ∧ 0 ≤ n.1
  | [], i, h => by
    obtain ⟨h1, h2⟩ := drop_nil h
    refine ⟨(0, 0), ?_, Int.le_refl _⟩
    rw [zit]
    simp only [h2, cond_false]
    simp
  | x :: r, i, h => by
    obtain ⟨h1, h2, h3, h4, h5, h6⟩ := zad h
    obtain ⟨n, hn, hn0⟩ := zpm xs a b hx r (i + 1) h5
    by_cases e : a = x
    · refine ⟨((i : Int), 0), ?_, by simp⟩
      rw [zit]
      simp only [h2, h3, h4, cond_true, int_eq, e]
      simp
    · refine ⟨n, ?_, hn0⟩
      rw [zit]
      simp only [h2, h3, h4, cond_true, int_eq, zcf (show i < 9223372036854775807 by omega), hn, decide_eq_false e, decide_eq_false (Ne.symm e), cond_false]
      simp [e]
theorem zoi [Dfr] (xs : List Int) (a : Int) (hx : xs.length ≤ 4611686018427387904) : zfv xs a = some (decide (a ∈ xs)) := by
  obtain ⟨n, hn, hn0⟩ := zpm xs a 0 hx xs 0 rfl
  rw [Int.natCast_zero] at hn
  rw [zxx, qcy]
  simp only [hn, Option.bind_some]
  by_cases e : a ∈ xs
  · simp [e, Nat.beq, hn0]
  · simp [e, Nat.beq]
theorem zmd [Dfr] (xs : List Int) (f : FnV) (p : Int → Bool) (b : Int) (hx : xs.length ≤ 4611686018427387904) (hp : ∀ x ∈ xs, dyn E f [.one (.int .i64 x)] .bool = some (p x)) : ∀ (r : List Int) (i : Nat), xs.drop i = r → ∃ n : Int × Int, zdx xs f b (xs.length : Int) (i : Int) = some (if r.any p then (1, n.1) else (0, b)) ∧ 0 ≤ n.1
  | [], i, h => by
    obtain ⟨h1, h2⟩ := drop_nil h
    refine ⟨(0, 0), ?_, Int.le_refl _⟩
    rw [zgg]
    simp only [h2, cond_false]
    simp
  | x :: r, i, h => by
    obtain ⟨h1, h2, h3, h4, h5, h6⟩ := zad h
    obtain ⟨n, hn, hn0⟩ := zmd xs f p b hx hp r (i + 1) h5
    have hxm : x ∈ xs := by
      have : x ∈ xs.drop i := by rw [h]; exact List.mem_cons_self ..
      exact List.mem_of_mem_drop this
    have hpx := hp x hxm
    cases e : p x with
    | true =>
      refine ⟨((i : Int), 0), ?_, by simp⟩
      rw [zgg]
      simp only [h2, h3, h4, hpx, e, cond_true, Option.bind_some, List.any_cons, Bool.true_or, if_true]
    | false =>
      refine ⟨n, ?_, hn0⟩
      rw [zgg]
      simp only [h2, h3, h4, hpx, e, cond_true, cond_false, Option.bind_some, List.any_cons, Bool.false_or, zcf (show i < 9223372036854775807 by omega), hn]
theorem ztn [Dfr] (xs : List Int) (f : FnV) (p : Int → Bool) (hx : xs.length ≤ 4611686018427387904) (hp : ∀ x ∈ xs, dyn E f [.one (.int .i64 x)] .bool = some (p x)) : zfo xs f = some (xs.any p) := by
  obtain ⟨n, hn, hn0⟩ := zmd xs f p 0 hx hp xs 0 rfl
  rw [Int.natCast_zero] at hn
  rw [zsi, zwd]
  simp only [hn, Option.bind_some]
  cases e : xs.any p with
  | true => simp [Nat.beq, hn0]
  | false => simp [Nat.beq]
theorem zlr [Dfr] (xs : List Mv) (a : Mv) (b : Int) (hx : xs.length ≤ 4611686018427387904) : ∀ (r : List Mv) (i : Nat), xs.drop i = r → ∃ n : Int × Int, zdk xs a b (xs.length : Int) (i : Int) = some (if a ∈ r then (1, n.1) else (0, b)) ∧ 0 ≤ n.1
  | [], i, h => by
    obtain ⟨h1, h2⟩ := drop_nil h
    refine ⟨(0, 0), ?_, Int.le_refl _⟩
    rw [zfx]
    simp only [h2, cond_false]
    simp
  | x :: r, i, h => by
    obtain ⟨h1, h2, h3, h4, h5, h6⟩ := zad h
    obtain ⟨n, hn, hn0⟩ := zlr xs a b hx r (i + 1) h5
    by_cases e : a = x
    · refine ⟨((i : Int), 0), ?_, by simp⟩
      rw [zfx]
      simp only [h2, h3, h4, cond_true, yxt, e]
      simp
    · refine ⟨n, ?_, hn0⟩
      rw [zfx]
      simp only [h2, h3, h4, cond_true, yxt, zcf (show i < 9223372036854775807 by omega), hn, decide_eq_false e, decide_eq_false (Ne.symm e), cond_false]
      simp [e]
theorem zsh [Dfr] (xs : List Mv) (a : Mv) (hx : xs.length ≤ 4611686018427387904) : zfa xs a = some (decide (a ∈ xs)) := by
  obtain ⟨n, hn, hn0⟩ := zlr xs a 0 hx xs 0 rfl
  rw [Int.natCast_zero] at hn
  rw [zrk, zux]
  simp only [hn, Option.bind_some]
  by_cases e : a ∈ xs
  · simp [e, Nat.beq, hn0]
  · simp [e, Nat.beq]
theorem zsl [Dfr] (xs : List Tc) (h : xs.length ≤ 1000000000) : zfc xs = some xs := by
  rw [zro]
  unfold zdd
  rw [room (show xs.length * 32 ≤ 140737488355328 by omega)]
  rfl
theorem ztj [Dfr] (n : Nat) (hn : n ≤ 1000000000) : zfn () (n : Int) = some [] := by
  rw [zsf]
  have hw : w64 ((n : Int) - 0) = (n : Int) := by rw [Int.sub_zero]; exact qyd (by omega)
  have h1 : decide ((n : Int) < 0) = false := decide_eq_false (by omega)
  have hr : zav n 32 = true := room (by omega)
  have h3 : decide (0 ≤ (n : Int)) = true := decide_eq_true (by omega)
  simp only [hw, h1, cond_false, Int.toNat_natCast, hr, h3, Bool.and_self, cond_true]
  by_cases h0 : n = 0
  · subst h0; rfl
  · have h2 : decide ((n : Int) > 0) = true := decide_eq_true (by omega)
    have hc : zdh 0 0 n = true := by unfold zdh; simp
    simp [h2, hc, cut]
theorem zii [Dfr] (xs : List (List Tc)) (hx : zct xs ≤ 1000000000) (hn : xs.length ≤ 1000000000) : ∀ (r : List (List Tc)) (i acc : Nat), xs.drop i = r → acc + zct r ≤ 1000000000 → zbu xs (acc : Int) xs (xs.length : Int) (i : Int) = some (0, (xs, ((acc + zct r : Nat) : Int)))
  | [], i, acc, h, ha => by
    obtain ⟨h1, h2⟩ := drop_nil h
    rw [zhp]
    simp only [h2, cond_false, zct, Nat.add_zero]
  | x :: r, i, acc, h, ha => by
    obtain ⟨h1, h2, h3, h4, h5, h6⟩ := zad h
    simp only [zct] at ha
    have hw : w64 ((acc : Int) + (x.length : Int)) = ((acc + x.length : Nat) : Int) := by rw [show (acc : Int) + (x.length : Int) = ((acc + x.length : Nat) : Int) by omega]; exact qyd (by omega)
    have h7 : decide (((acc + x.length : Nat) : Int) < 0) = false := decide_eq_false (by omega)
    rw [zhp]
    simp only [h2, h3, h4, hw, h7, cond_true, cond_false, zcf (show i < 9223372036854775807 by omega), zii xs hx hn r (i + 1) (acc + x.length) h5 (by omega), zct, Nat.add_assoc]
theorem zih [Dfr] (xs : List (List Tc)) (hn : xs.length ≤ 1000000000) : ∀ (r : List (List Tc)) (i : Nat) (acc : List Tc), xs.drop i = r → acc.length + zct r ≤ 1000000000 → zbt acc xs (xs.length : Int) (i : Int) = some (0, acc ++ r.flatten)
  | [], i, acc, h, ha => by
    obtain ⟨h1, h2⟩ := drop_nil h
    rw [zho]
    simp only [h2, cond_false, List.flatten_nil, List.append_nil]
  | x :: r, i, acc, h, ha => by
    obtain ⟨h1, h2, h3, h4, h5, h6⟩ := zad h
    simp only [zct] at ha
    rw [zho]
    simp only [h2, h3, h4, room (show (acc.length + x.length) * 32 ≤ 140737488355328 by omega), cond_true, zcf (show i < 9223372036854775807 by omega), zih xs hn r (i + 1) (acc ++ x) h5 (by rw [List.length_append]; omega), List.flatten_cons, List.append_assoc]
theorem zrm [Dfr] (xs : List (List Tc)) (hx : zct xs ≤ 1000000000) (hn : xs.length ≤ 1000000000) : zer xs = some xs.flatten := by
  rw [zql]
  have h0 := zii xs hx hn xs 0 0 rfl (by omega)
  have h2 := zih xs hn xs 0 [] rfl (by simpa using hx)
  simp only [Int.natCast_zero, Nat.zero_add] at h0 h2
  simp only [h0, Option.bind_some, ztj _ hx, h2, List.nil_append]
theorem zwe [Dfr] (n : Nat) (hn : n ≤ 1000000000) : zgk () (n : Int) = some [] := by
  rw [zuz]
  have hw : w64 ((n : Int) - 0) = (n : Int) := by rw [Int.sub_zero]; exact qyd (by omega)
  have h1 : decide ((n : Int) < 0) = false := decide_eq_false (by omega)
  have hr : zav n 64 = true := room (by omega)
  have h3 : decide (0 ≤ (n : Int)) = true := decide_eq_true (by omega)
  simp only [hw, h1, cond_false, Int.toNat_natCast, hr, h3, Bool.and_self, cond_true]
  by_cases h0 : n = 0
  · subst h0; rfl
  · have h2 : decide ((n : Int) > 0) = true := decide_eq_true (by omega)
    have hc : zdh 0 0 n = true := by unfold zdh; simp
    simp [h2, hc, cut]
theorem zka [Dfr] (xs : List (List (Tc × Tc))) (hx : zct xs ≤ 1000000000) (hn : xs.length ≤ 1000000000) : ∀ (r : List (List (Tc × Tc))) (i acc : Nat), xs.drop i = r → acc + zct r ≤ 1000000000 → zch xs (acc : Int) xs (xs.length : Int) (i : Int) = some (0, (xs, ((acc + zct r : Nat) : Int)))
  | [], i, acc, h, ha => by
    obtain ⟨h1, h2⟩ := drop_nil h
    rw [zik]
    simp only [h2, cond_false, zct, Nat.add_zero]
  | x :: r, i, acc, h, ha => by
    obtain ⟨h1, h2, h3, h4, h5, h6⟩ := zad h
    simp only [zct] at ha
    have hw : w64 ((acc : Int) + (x.length : Int)) = ((acc + x.length : Nat) : Int) := by rw [show (acc : Int) + (x.length : Int) = ((acc + x.length : Nat) : Int) by omega]; exact qyd (by omega)
    have h7 : decide (((acc + x.length : Nat) : Int) < 0) = false := decide_eq_false (by omega)
    rw [zik]
    simp only [h2, h3, h4, hw, h7, cond_true, cond_false, zcf (show i < 9223372036854775807 by omega), zka xs hx hn r (i + 1) (acc + x.length) h5 (by omega), zct, Nat.add_assoc]
theorem zjz [Dfr] (xs : List (List (Tc × Tc))) (hn : xs.length ≤ 1000000000) : ∀ (r : List (List (Tc × Tc))) (i : Nat) (acc : List (Tc × Tc)), xs.drop i = r → acc.length + zct r ≤ 1000000000 → zcg acc xs (xs.length : Int) (i : Int) = some (0, acc ++ r.flatten)
  | [], i, acc, h, ha => by
    obtain ⟨h1, h2⟩ := drop_nil h
    rw [zij]
    simp only [h2, cond_false, List.flatten_nil, List.append_nil]
  | x :: r, i, acc, h, ha => by
    obtain ⟨h1, h2, h3, h4, h5, h6⟩ := zad h
    simp only [zct] at ha
    rw [zij]
    simp only [h2, h3, h4, room (show (acc.length + x.length) * 64 ≤ 140737488355328 by omega), cond_true, zcf (show i < 9223372036854775807 by omega), zjz xs hn r (i + 1) (acc ++ x) h5 (by rw [List.length_append]; omega), List.flatten_cons, List.append_assoc]
theorem zto [Dfr] (xs : List (List (Tc × Tc))) (hx : zct xs ≤ 1000000000) (hn : xs.length ≤ 1000000000) : zfp xs = some xs.flatten := by
  rw [zsj]
  have h0 := zka xs hx hn xs 0 0 rfl (by omega)
  have h2 := zjz xs hn xs 0 [] rfl (by simpa using hx)
  simp only [Int.natCast_zero, Nat.zero_add] at h0 h2
  simp only [h0, Option.bind_some, zwe _ hx, h2, List.nil_append]
theorem zhu [Dfr] (xs : List (List Nd)) (f : FnV) (p : List Nd → Bool) (b : Int) (hx : xs.length ≤ 4611686018427387904) (hp : ∀ x ∈ xs, dyn E f [.one (.slice 36 (.pair (.int .i64) (.pair .str (.int .i64))) x .no)] .bool = some (p x)) : ∀ (r : List (List Nd)) (i : Nat), xs.drop i = r → ∃ n : Int × Int, zbl xs f b (xs.length : Int) (i : Int) = some (if r.any p then (1, n.1) else (0, b)) ∧ 0 ≤ n.1
  | [], i, h => by
    obtain ⟨h1, h2⟩ := drop_nil h
    refine ⟨(0, 0), ?_, Int.le_refl _⟩
    rw [zek]
    simp only [h2, cond_false]
    simp
  | x :: r, i, h => by
    obtain ⟨h1, h2, h3, h4, h5, h6⟩ := zad h
    obtain ⟨n, hn, hn0⟩ := zhu xs f p b hx hp r (i + 1) h5
    have hxm : x ∈ xs := by
      have : x ∈ xs.drop i := by rw [h]; exact List.mem_cons_self ..
      exact List.mem_of_mem_drop this
    have hpx := hp x hxm
    cases e : p x with
    | true =>
      refine ⟨((i : Int), 0), ?_, by simp⟩
      rw [zek]
      simp only [h2, h3, h4, hpx, e, cond_true, Option.bind_some, List.any_cons, Bool.true_or, if_true]
    | false =>
      refine ⟨n, ?_, hn0⟩
      rw [zek]
      simp only [h2, h3, h4, hpx, e, cond_true, cond_false, Option.bind_some, List.any_cons, Bool.false_or, zcf (show i < 9223372036854775807 by omega), hn]
theorem zog [Dfr] (xs : List (List Nd)) (f : FnV) (p : List Nd → Bool) (hx : xs.length ≤ 4611686018427387904) (hp : ∀ x ∈ xs, dyn E f [.one (.slice 36 (.pair (.int .i64) (.pair .str (.int .i64))) x .no)] .bool = some (p x)) : zdc xs f = some (xs.any p) := by
  obtain ⟨n, hn, hn0⟩ := zhu xs f p 0 hx hp xs 0 rfl
  rw [Int.natCast_zero] at hn
  rw [zno, zpo]
  simp only [hn, Option.bind_some]
  cases e : xs.any p with
  | true => simp [Nat.beq, hn0]
  | false => simp [Nat.beq]
end Go.Proofs.YtjogkjgpbeenfaaGreatDoor.Sv
