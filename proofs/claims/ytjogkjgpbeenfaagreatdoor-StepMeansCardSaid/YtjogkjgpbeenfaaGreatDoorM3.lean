/- Sorts as numbers. Plain Lean, no program in sight. -/
import Derived.Test.YtjogkjgpbeenfaaGreatDoorM2
import Derived.Test.YtjogkjgpbeenfaaGreatDoorW03r
namespace Go.Rd
open Go Go.Sv
set_option linter.unusedVariables false
set_option linter.unusedSimpArgs false
def on (s : Int) : Int := if s = 1 ∨ s = 2 then s + 2 else s
def both (a b : Int) : Int := if on a = on b then (if b > a then b else a) else 0
def behind (a b t : Int) : Int := if b = t then (if on a = on t then a else 0) else 0
def so2 (k x y : Int) : Int :=
  if x = 0 then 0 else if y = 0 then 0
  else if k = 6 then (if x > 2 then 0 else if y > 2 then 0 else both x y)
  else if k = 7 then both x y
  else if k = 5 then (if behind x y 2 > behind x y 1 then behind x y 2 else behind x y 1)
  else if k = 8 then behind x y 1
  else if k = 10 then (if x = 1 then (if y = 1 then 2 else 0) else 0)
  else if k = 12 then (if on x = 3 then (if y = 1 then 4 else 0) else 0)
  else if k = 13 then (if on x = 4 then (if y = 1 then 4 else 0) else 0)
  else 0
def so1 (k x : Int) : Int :=
  if x = 0 then 0
  else if k = 9 then (if on x = 4 then x - 1 else 0)
  else if k = 14 then (if x = 1 then 4 else 0)
  else 0
namespace Tm
theorem yww (a b : Tm) : (seq a b).so = so2 5 a.so b.so := by
  rcases cls a with ⟨h, h1, h2, h3, h4⟩ | ⟨h, h1, h2, h3, h4⟩ | ⟨h, h1, h2, h3, h4⟩ | ⟨h, h1, h2, h3, h4⟩ | ⟨h, h1, h2, h3, h4⟩ <;>
  rcases cls b with ⟨k, k1, k2, k3, k4⟩ | ⟨k, k1, k2, k3, k4⟩ | ⟨k, k1, k2, k3, k4⟩ | ⟨k, k1, k2, k3, k4⟩ | ⟨k, k1, k2, k3, k4⟩ <;>
  (rw [h, k]; simp only [so, pl, pa, po, qo, h1, h2, h3, h4, k1, k2, k3, k4]; rfl)
theorem yxa (a b : Tm) : (alt a b).so = so2 6 a.so b.so := by
  rcases cls a with ⟨h, h1, h2, h3, h4⟩ | ⟨h, h1, h2, h3, h4⟩ | ⟨h, h1, h2, h3, h4⟩ | ⟨h, h1, h2, h3, h4⟩ | ⟨h, h1, h2, h3, h4⟩ <;>
  rcases cls b with ⟨k, k1, k2, k3, k4⟩ | ⟨k, k1, k2, k3, k4⟩ | ⟨k, k1, k2, k3, k4⟩ | ⟨k, k1, k2, k3, k4⟩ | ⟨k, k1, k2, k3, k4⟩ <;>
  (rw [h, k]; simp only [so, pl, pa, po, qo, h1, h2, h3, h4, k1, k2, k3, k4]; rfl)
theorem ywy (a b : Tm) : (par a b).so = so2 7 a.so b.so := by
  rcases cls a with ⟨h, h1, h2, h3, h4⟩ | ⟨h, h1, h2, h3, h4⟩ | ⟨h, h1, h2, h3, h4⟩ | ⟨h, h1, h2, h3, h4⟩ | ⟨h, h1, h2, h3, h4⟩ <;>
  rcases cls b with ⟨k, k1, k2, k3, k4⟩ | ⟨k, k1, k2, k3, k4⟩ | ⟨k, k1, k2, k3, k4⟩ | ⟨k, k1, k2, k3, k4⟩ | ⟨k, k1, k2, k3, k4⟩ <;>
  (rw [h, k]; simp only [so, pl, pa, po, qo, h1, h2, h3, h4, k1, k2, k3, k4]; rfl)
theorem yuo (a b : Tm) : (hand a b).so = so2 8 a.so b.so := by
  rcases cls a with ⟨h, h1, h2, h3, h4⟩ | ⟨h, h1, h2, h3, h4⟩ | ⟨h, h1, h2, h3, h4⟩ | ⟨h, h1, h2, h3, h4⟩ | ⟨h, h1, h2, h3, h4⟩ <;>
  rcases cls b with ⟨k, k1, k2, k3, k4⟩ | ⟨k, k1, k2, k3, k4⟩ | ⟨k, k1, k2, k3, k4⟩ | ⟨k, k1, k2, k3, k4⟩ | ⟨k, k1, k2, k3, k4⟩ <;>
  (rw [h, k]; simp only [so, pl, pa, po, qo, h1, h2, h3, h4, k1, k2, k3, k4]; rfl)
theorem yun (a b : Tm) : (pair a b).so = so2 10 a.so b.so := by
  rcases cls a with ⟨h, h1, h2, h3, h4⟩ | ⟨h, h1, h2, h3, h4⟩ | ⟨h, h1, h2, h3, h4⟩ | ⟨h, h1, h2, h3, h4⟩ | ⟨h, h1, h2, h3, h4⟩ <;>
  rcases cls b with ⟨k, k1, k2, k3, k4⟩ | ⟨k, k1, k2, k3, k4⟩ | ⟨k, k1, k2, k3, k4⟩ | ⟨k, k1, k2, k3, k4⟩ | ⟨k, k1, k2, k3, k4⟩ <;>
  (rw [h, k]; simp only [so, pl, pa, po, qo, h1, h2, h3, h4, k1, k2, k3, k4]; rfl)
theorem yqa (a b : Tm) : (going a b).so = so2 12 a.so b.so := by
  rcases cls a with ⟨h, h1, h2, h3, h4⟩ | ⟨h, h1, h2, h3, h4⟩ | ⟨h, h1, h2, h3, h4⟩ | ⟨h, h1, h2, h3, h4⟩ | ⟨h, h1, h2, h3, h4⟩ <;>
  rcases cls b with ⟨k, k1, k2, k3, k4⟩ | ⟨k, k1, k2, k3, k4⟩ | ⟨k, k1, k2, k3, k4⟩ | ⟨k, k1, k2, k3, k4⟩ | ⟨k, k1, k2, k3, k4⟩ <;>
  (rw [h, k]; simp only [so, pl, pa, po, qo, h1, h2, h3, h4, k1, k2, k3, k4]; rfl)
theorem ypy (a b : Tm) : (stack a b).so = so2 13 a.so b.so := by
  rcases cls a with ⟨h, h1, h2, h3, h4⟩ | ⟨h, h1, h2, h3, h4⟩ | ⟨h, h1, h2, h3, h4⟩ | ⟨h, h1, h2, h3, h4⟩ | ⟨h, h1, h2, h3, h4⟩ <;>
  rcases cls b with ⟨k, k1, k2, k3, k4⟩ | ⟨k, k1, k2, k3, k4⟩ | ⟨k, k1, k2, k3, k4⟩ | ⟨k, k1, k2, k3, k4⟩ | ⟨k, k1, k2, k3, k4⟩ <;>
  (rw [h, k]; simp only [so, pl, pa, po, qo, h1, h2, h3, h4, k1, k2, k3, k4]; rfl)
theorem yqb (a : Tm) : (block a).so = so1 9 a.so := by
  rcases cls a with ⟨h, h1, h2, h3, h4⟩ | ⟨h, h1, h2, h3, h4⟩ | ⟨h, h1, h2, h3, h4⟩ | ⟨h, h1, h2, h3, h4⟩ | ⟨h, h1, h2, h3, h4⟩ <;>
  (rw [h]; simp only [so, pl, pa, po, qo, h1, h2, h3, h4]; rfl)
theorem ywz (s : Int) (a : Tm) : (fin s a).so = so1 14 a.so := by
  rcases cls a with ⟨h, h1, h2, h3, h4⟩ | ⟨h, h1, h2, h3, h4⟩ | ⟨h, h1, h2, h3, h4⟩ | ⟨h, h1, h2, h3, h4⟩ | ⟨h, h1, h2, h3, h4⟩ <;>
  (rw [h]; simp only [so, pl, pa, po, qo, h1, h2, h3, h4]; rfl)
theorem ypz (a : Tm) : 0 ≤ a.so ∧ a.so ≤ 4 := by
  rcases cls a with h | h | h | h | h <;> omega
theorem yum (a : Tm) : a.po = decide (on a.so = 3) := by
  rcases cls a with ⟨h, h1, h2, h3, h4⟩ | ⟨h, h1, h2, h3, h4⟩ | ⟨h, h1, h2, h3, h4⟩ | ⟨h, h1, h2, h3, h4⟩ | ⟨h, h1, h2, h3, h4⟩ <;> (rw [h, h3]; rfl)
theorem ywx (a : Tm) : a.qo = decide (on a.so = 4) := by
  rcases cls a with ⟨h, h1, h2, h3, h4⟩ | ⟨h, h1, h2, h3, h4⟩ | ⟨h, h1, h2, h3, h4⟩ | ⟨h, h1, h2, h3, h4⟩ | ⟨h, h1, h2, h3, h4⟩ <;> (rw [h, h4]; rfl)
end Tm
noncomputable def tmOf (l : List Nd) : Option Tm := if h : whole l = true then some (Classical.choose (qfk.1 h)) else none
theorem znl {l : List Nd} {m : Tm} : tmOf l = some m ↔ l = m.row ∧ m.fine ∧ m.size ≤ 200 := by
  unfold tmOf
  split
  · rename_i h
    have hs := Classical.choose_spec (qfk.1 h)
    constructor
    · intro e; cases e; exact hs
    · rintro ⟨e, _⟩
      congr 1
      exact Tm.qok (hs.1.symm.trans e)
  · rename_i h
    constructor
    · intro e; cases e
    · intro e; exact absurd (qfk.2 ⟨m, e⟩) h
theorem yjz {l : List Nd} : tmOf l = none ↔ whole l = false := by
  unfold tmOf
  split
  · rename_i h; simp [h]
  · rename_i h; simpa using h
theorem ygy (l : List Nd) : whole l = (tmOf l).isSome := by
  cases h : tmOf l with
  | none => rw [yjz.1 h]; rfl
  | some m => rw [qfk.2 ⟨m, znl.1 h⟩]; rfl
noncomputable def sOf (l : List Nd) : Int := match tmOf l with | some m => m.so | none => 0
theorem ylc {m : Tm} (h : m.fine) (hs : m.size ≤ 200) : sOf m.row = m.so := by
  unfold sOf
  rw [znl.2 ⟨rfl, h, hs⟩]
theorem yus {l : List Nd} (h : sOf l ≠ 0) : ∃ m : Tm, l = m.row ∧ m.fine ∧ m.size ≤ 200 ∧ sOf l = m.so := by
  unfold sOf at h ⊢
  cases ht : tmOf l with
  | none => rw [ht] at h; exact absurd rfl h
  | some m =>
    obtain ⟨h1, h2, h3⟩ := znl.1 ht
    exact ⟨m, h1, h2, h3, rfl⟩
end Go.Rd

/- Rows whose actions may be refused. Plain Lean, no program in sight. -/
namespace Go.Rd
open Go Go.Sv
set_option linter.unusedVariables false
set_option linter.unusedSimpArgs false
def hit (names : List ByteArray) (n : Nd) : Bool := decide (n.1 = 1) && decide (n.2.1 ∈ names)
/-! ### trees, rewritten -/
def T.rw (ns : List ByteArray) : T → T
  | .n0 n => bif hit ns n then .n2 (nd 6) (.n0 n) (.n0 (nd 3)) else .n0 n
  | .n1 n a => .n1 n (a.rw ns)
  | .n2 n a b => .n2 n (a.rw ns) (b.rw ns)
namespace Tm
end Tm
end Go.Rd

/- What the functions of sorts compute (package sort, redressref04): in plain words. -/
namespace Go.Proofs.YtjogkjgpbeenfaaGreatDoor.Sv
open Go Go.Sv Go.Rd
set_option linter.unusedVariables false
set_option linter.unusedSimpArgs false
theorem qpv [Dfr] (m : Tm) {n : Nd} (h : m.t = .n0 n) (hs : m.size ≤ 100000) : zgm m.row = some [] := by
  rw [zlh _ (by rw [Tm.zac]; omega), qxe, h]
  rfl
theorem yii [Dfr] (m : Tm) {n : Nd} {a : Tm} (h : m.t = .n1 n a.t) (hs : m.size ≤ 100000) : zgm m.row = some [a.row] := by
  rw [zlh _ (by rw [Tm.zac]; omega), qxe, h]
  rfl
theorem qev [Dfr] (m : Tm) {n : Nd} {a b : Tm} (h : m.t = .n2 n a.t b.t) (hs : m.size ≤ 100000) : zgm m.row = some [a.row, b.row] := by
  rw [zlh _ (by rw [Tm.zac]; omega), qxe, h]
  rfl
theorem zwb [Dfr] (x : Int) : zqi x = some (on x) := by
  rw [yhf]
  by_cases h1 : x = 1; · subst h1; rfl
  by_cases h2 : x = 2; · subst h2; rfl
  simp only [beq_false_of_ne h1, beq_false_of_ne h2, cond_false, on, h1, h2, or_self, if_false]
theorem ycp [Dfr] (x y : Int) : qab x y = some (both x y) := by
  rw [qyw]
  simp only [zwb, Option.bind_some, both]
  by_cases h : on x = on y
  · have : (on x != on y) = false := by simp [h]
    rw [this, if_pos h]; rfl
  · have : (on x != on y) = true := by simp [h]
    rw [this, if_neg h]; rfl
theorem qvm [Dfr] (x y z : Int) : zon x y z = some (behind x y z) := by
  rw [qrk]
  simp only [zwb, Option.bind_some, behind]
  by_cases h : y = z
  · have : (y != z) = false := by simp [h]
    rw [this, if_pos h, cond_false]
    by_cases h' : on x = on z
    · have : (on x != on z) = false := by simp [h']
      rw [this, if_pos h']; rfl
    · have : (on x != on z) = true := by simp [h']
      rw [this, if_neg h']; rfl
  · have : (y != z) = true := by simp [h]
    rw [this, if_neg h]; rfl
theorem ykp [Dfr] (l a b : List Nd) {x y : Int} (ha : zft a = some x) (hb : zft b = some y) : zkh l 0 [] [a, b] (([a, b] : List (List Nd)).length : Int) 0 = some (if x = 0 then (1, (l, 0, [])) else if y = 0 then (1, (l, 0, [x])) else (0, (l, 0, [x, y]))) := by
  rw [zht]
  simp only [show decide ((0 : Int) < (([a, b] : List (List Nd)).length : Int)) = true from rfl, show zaa 0 ([a, b] : List (List Nd)).length = true from rfl, cond_true, show ix [a, b] 0 = a from rfl, ha, Option.bind_some]
  by_cases h : x = 0
  · simp [h]
  · simp only [beq_false_of_ne h, cond_false, if_neg h, room (show (([] : List Int).length + 1) * 8 ≤ 140737488355328 by decide), cond_true, List.nil_append]
    rw [zht]
    simp only [show decide (w64 (0 + 1) < (([a, b] : List (List Nd)).length : Int)) = true from rfl, show zaa (w64 (0 + 1)) ([a, b] : List (List Nd)).length = true from rfl, cond_true, show ix [a, b] (w64 (0 + 1)) = b from rfl, hb, Option.bind_some]
    by_cases h' : y = 0
    · simp [h']
    · simp only [beq_false_of_ne h', cond_false, if_neg h', room (show (([x] : List Int).length + 1) * 8 ≤ 140737488355328 by simp), cond_true]
      rw [zht]
      rfl
theorem qyv [Dfr] (l a : List Nd) {x : Int} (ha : zft a = some x) : zkh l 0 [] [a] (([a] : List (List Nd)).length : Int) 0 = some (if x = 0 then (1, (l, 0, [])) else (0, (l, 0, [x]))) := by
  rw [zht]
  simp only [show decide ((0 : Int) < (([a] : List (List Nd)).length : Int)) = true from rfl, show zaa 0 ([a] : List (List Nd)).length = true from rfl, cond_true, show ix [a] 0 = a from rfl, ha, Option.bind_some]
  by_cases h : x = 0
  · simp [h]
  · simp only [beq_false_of_ne h, cond_false, if_neg h, room (show (([] : List Int).length + 1) * 8 ≤ 140737488355328 by decide), cond_true, List.nil_append]
    rw [zht]
    rfl
theorem ykq [Dfr] (l : List Nd) : zkh l 0 [] [] (([] : List (List Nd)).length : Int) 0 = some (0, (l, 0, [])) := by
  rw [zht]
  rfl
theorem zxr [Dfr] {m a b : Tm} {k x y : Int} (hk : k = 5 ∨ k = 6 ∨ k = 7 ∨ k = 8 ∨ k = 10 ∨ k = 12 ∨ k = 13) (h : m.t = .n2 (nd k) a.t b.t) (hs : m.size ≤ 100000) (ha : zft a.row = some x) (hb : zft b.row = some y) : zft m.row = some (so2 k x y) := by
  rw [zua, qev m h hs]
  simp only [Option.bind_some, ykp m.row a.row b.row ha hb]
  by_cases h0 : x = 0
  · simp [h0, so2, Nat.beq]
  by_cases h1 : y = 0
  · simp [h0, h1, so2, Nat.beq]
  have hrow : m.row = nd k :: (a.row ++ b.row) := by unfold Tm.row; rw [h]; rfl
  have hid : zaa 0 m.row.length = true := by rw [hrow]; exact zbp (by simp)
  have hix : (ix m.row 0).1 = k := by rw [hrow]; rfl
  simp only [if_neg h0, if_neg h1, Nat.beq_refl, cond_true, hid, hix, ycp, qvm, zwb, show zaa 0 ([x, y] : List Int).length = true from rfl, show zaa 1 ([x, y] : List Int).length = true from rfl, show ix [x, y] 0 = x from rfl, show ix [x, y] 1 = y from rfl, Option.bind_some, int_eq]
  unfold so2
  rw [if_neg h0, if_neg h1]
  rcases hk with rfl | rfl | rfl | rfl | rfl | rfl | rfl
  · rfl
  · by_cases c1 : x > 2 <;> by_cases c2 : y > 2 <;> simp [c1, c2]
  · rfl
  · rfl
  · by_cases c1 : x = 1 <;> by_cases c2 : y = 1 <;> simp [c1, c2]
  · by_cases c1 : on x = 3 <;> by_cases c2 : y = 1 <;> simp [c1, c2]
  · by_cases c1 : on x = 4 <;> by_cases c2 : y = 1 <;> simp [c1, c2]
theorem yko [Dfr] {a : Tm} {x : Int} (hs : (Tm.block a).size ≤ 100000) (hx : 0 ≤ x ∧ x ≤ 4) (ha : zft a.row = some x) : zft (Tm.block a).row = some (so1 9 x) := by
  rw [zua, yii (.block a) rfl hs]
  simp only [Option.bind_some, qyv (Tm.block a).row a.row ha]
  by_cases h0 : x = 0
  · simp [h0, so1, Nat.beq]
  have hid : zaa 0 (Tm.block a).row.length = true := by rw [Tm.qal]; exact zbp (by simp)
  have hix : (ix (Tm.block a).row 0).1 = 9 := rfl
  simp only [if_neg h0, Nat.beq_refl, cond_true, hid, hix, zwb, show zaa 0 ([x] : List Int).length = true from rfl, show ix [x] 0 = x from rfl, Option.bind_some, int_eq]
  unfold so1
  rw [if_neg h0]
  rw [zqz (by omega) (by omega)]
  by_cases c1 : on x = 4 <;> simp [c1]
theorem yhe [Dfr] {a : Tm} {s x : Int} (hs : (Tm.fin s a).size ≤ 100000) (ha : zft a.row = some x) : zft (Tm.fin s a).row = some (so1 14 x) := by
  rw [zua, yii (.fin s a) rfl hs]
  simp only [Option.bind_some, qyv (Tm.fin s a).row a.row ha]
  by_cases h0 : x = 0
  · simp [h0, so1, Nat.beq]
  have hid : zaa 0 (Tm.fin s a).row.length = true := by rw [Tm.qwb]; exact zbp (by simp)
  have hix : (ix (Tm.fin s a).row 0).1 = 14 := rfl
  simp only [if_neg h0, Nat.beq_refl, cond_true, hid, hix, zwb, show zaa 0 ([x] : List Int).length = true from rfl, show ix [x] 0 = x from rfl, Option.bind_some, int_eq]
  unfold so1
  rw [if_neg h0]
  by_cases c1 : x = 1 <;> simp [c1]
theorem zzz [Dfr] {m : Tm} {n : Nd} (h : m.t = .n0 n) (hk : n.1 = 1 ∨ n.1 = 2 ∨ n.1 = 3 ∨ n.1 = 4 ∨ n.1 = 11) : zft m.row = some (if n.1 = 11 then 3 else 1) := by
  have hs : m.size ≤ 100000 := by unfold Tm.size; rw [h]; simp [T.size]
  have hrow : m.row = [n] := by unfold Tm.row; rw [h]; rfl
  rw [zua, qpv m h hs]
  simp only [Option.bind_some, ykq, Nat.beq_refl, cond_true]
  rw [hrow]
  simp only [show zaa 0 ([n] : List Nd).length = true from rfl, show ix [n] 0 = n from rfl, cond_true]
  rcases hk with e | e | e | e | e <;> rw [e] <;> rfl
theorem yco [Dfr] (m : Tm) (hs : m.size ≤ 100000) : zft m.row = some m.so := by
  induction m with
  | act s => rw [zzz (m := .act s) rfl (.inl rfl)]; rfl
  | skip => rw [zzz (m := .skip) rfl (.inr (.inl rfl))]; rfl
  | throw => rw [zzz (m := .throw) rfl (.inr (.inr (.inl rfl)))]; rfl
  | yield => rw [zzz (m := .yield) rfl (.inr (.inr (.inr (.inl rfl))))]; rfl
  | over s => rw [zzz (m := .over s) rfl (.inr (.inr (.inr (.inr rfl))))]; rfl
  | block a ih => rw [yko hs a.ypz (ih (by rw [Tm.zbo] at hs; omega)), Tm.yqb]
  | fin s a ih => rw [yhe hs (ih (by rw [Tm.zfd] at hs; omega)), Tm.ywz]
  | seq a b iha ihb => rw [zxr (m := .seq a b) (by simp) rfl hs (iha (by rw [Tm.zcs] at hs; omega)) (ihb (by rw [Tm.zcs] at hs; omega)), Tm.yww]
  | alt a b iha ihb => rw [zxr (m := .alt a b) (by simp) rfl hs (iha (by rw [Tm.qcg] at hs; omega)) (ihb (by rw [Tm.qcg] at hs; omega)), Tm.yxa]
  | par a b iha ihb => rw [zxr (m := .par a b) (by simp) rfl hs (iha (by rw [Tm.zet] at hs; omega)) (ihb (by rw [Tm.zet] at hs; omega)), Tm.ywy]
  | hand a b iha ihb => rw [zxr (m := .hand a b) (by simp) rfl hs (iha (by rw [Tm.zdn] at hs; omega)) (ihb (by rw [Tm.zdn] at hs; omega)), Tm.yuo]
  | pair a b iha ihb => rw [zxr (m := .pair a b) (by simp) rfl hs (iha (by rw [Tm.qgb] at hs; omega)) (ihb (by rw [Tm.qgb] at hs; omega)), Tm.yun]
  | going a b iha ihb => rw [zxr (m := .going a b) (by simp) rfl hs (iha (by rw [Tm.zez] at hs; omega)) (ihb (by rw [Tm.zez] at hs; omega)), Tm.yqa]
  | stack a b iha ihb => rw [zxr (m := .stack a b) (by simp) rfl hs (iha (by rw [Tm.zgf] at hs; omega)) (ihb (by rw [Tm.zgf] at hs; omega)), Tm.ypy]
theorem ykr [Dfr] (l : List Nd) (hl : l.length ≤ 4611686018427387904) : qnm l = some (sOf l) := by
  rw [yhh, ycu l hl, ygy]
  unfold sOf
  simp only [Option.bind_some]
  cases h : tmOf l with
  | none => rfl
  | some m =>
    obtain ⟨rfl, h2, h3⟩ := znl.1 h
    simp only [Option.isSome_some, Bool.not_true, cond_false, yco m (by omega), Option.bind_some]
theorem qnk [Dfr] (l : List Nd) (b : Bool) (hl : l.length ≤ 4611686018427387904) : qei l b = some (decide (on (sOf l) = if b then 4 else 3)) := by
  rw [yhg]
  cases b <;> simp only [ykr l hl, zwb, Option.bind_some, cond_true, cond_false, int_eq, if_true, if_false] <;> rfl
end Go.Proofs.YtjogkjgpbeenfaaGreatDoor.Sv
