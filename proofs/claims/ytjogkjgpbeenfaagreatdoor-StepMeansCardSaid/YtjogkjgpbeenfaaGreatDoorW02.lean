/- What the functions of traces compute (package trace, redressref02): in plain words. -/
import Derived.Test.YtjogkjgpbeenfaaGreatDoorW01
import Derived.Test.YtjogkjgpbeenfaaGreatDoorM7
namespace Go.Proofs.YtjogkjgpbeenfaaGreatDoor.Sv
open Go Go.Sv Go.Rd
set_option linter.unusedVariables false
set_option linter.unusedSimpArgs false
theorem qia [Dfr] (x y : Int) : zmo x y = some (ordN (cmpI x y)) := by
  rw [qfc, zxj, zxj]
  unfold cmpI
  by_cases h : x < y
  · simp [h, ordN]
  · by_cases h' : x = y
    · simp [h', ordN]
    · have h2 : y < x := by omega
      simp [h, h', h2, ordN]
theorem zqf [Dfr] (x y : ByteArray) : zjb x y = some (ordN (cmpB x y)) := by
  rw [zzo, zrd, zrd]
  simp only [Option.bind_some, beq_self_eq_true, Bool.not_true, cond_false, qvj, str_eq]
  cases h : cmpB x y with
  | lt => simp [ordN]
  | eq =>
    have e := (ordB.eq x y).1 h
    simp [e, ordN]
  | gt =>
    have e : x ≠ y := fun e => by rw [e, ordB.rfl'] at h; cases h
    simp [e, ordN]
theorem qec [Dfr] (a b : Int) : ztf [a, b] = some (if a = 0 then b else a) := by
  rw [qsx, zpc, zpc, zpc]
  by_cases h : a = 0
  · by_cases h' : b = 0
    · subst h; subst h'; rfl
    · subst h
      have e1 : (ix [0, b] 0 != 0) = false := rfl
      have e2 : (ix [0, b] (w64 (0 + 1)) != 0) = true := by show (b != 0) = true; simpa using h'
      simp only [e1, e2, cond_false, cond_true]
      rfl
  · have e1 : (ix [a, b] 0 != 0) = true := by show (a != 0) = true; simpa using h
    simp only [e1, cond_true, if_neg h]
    rfl
theorem qoy [Dfr] (a b : Ordering) : ordN (a.then b) = if ordN a = 0 then ordN b else ordN a := by cases a <;> rfl
theorem zlu [Dfr] (xs ys : List ByteArray) (hx : xs.length ≤ 4611686018427387904) : ∀ (r s : List ByteArray) (i : Nat), xs.drop i = r → ys.drop i = s → i ≤ xs.length → i ≤ ys.length →
    ∃ e, zdm xs ys 0 xs (xs.length : Int) (i : Int) = some e ∧ (bif Nat.beq e.1 0 then (bif (decide ((e.2.1.length : Int) < (e.2.2.1.length : Int))) then (some (-1)) else (some 0)) else (some e.2.2.2)) = some (ordN (cmpL cmpB r s))
  | [], s, i, h, k, hi, hj => by
    obtain ⟨h1, h2⟩ := drop_nil h
    refine ⟨(0, (xs, ys, 0)), ?_, ?_⟩
    · rw [zee]
      simp only [h2, cond_false]
    · have hk := congrArg List.length k
      rw [List.length_drop] at hk
      cases s with
      | nil =>
        rw [List.length_nil] at hk
        have e : decide ((xs.length : Int) < (ys.length : Int)) = false := decide_eq_false (by omega)
        simp only [e]
        rfl
      | cons y s =>
        rw [List.length_cons] at hk
        have e : decide ((xs.length : Int) < (ys.length : Int)) = true := decide_eq_true (by omega)
        simp only [e]
        rfl
  | x :: r, [], i, h, k, hi, hj => by
    obtain ⟨h1, h2, h3, h4, h5, h6⟩ := zad h
    obtain ⟨k1, k2⟩ := drop_nil k
    refine ⟨(1, (xs, ys, 1)), ?_, rfl⟩
    rw [zee]
    simp only [h2, h3, cond_true, decide_eq_true (show (i : Int) ≥ (ys.length : Int) by omega)]
  | x :: r, y :: s, i, h, k, hi, hj => by
    obtain ⟨h1, h2, h3, h4, h5, h6⟩ := zad h
    obtain ⟨k1, k2, k3, k4, k5, k6⟩ := zad k
    obtain ⟨e, he, hr⟩ := zlu xs ys hx r s (i + 1) h5 k5 (by omega) (by omega)
    rw [cmpL, qoy]
    by_cases hc : ordN (cmpB x y) = 0
    · refine ⟨e, ?_, by rw [if_pos hc]; exact hr⟩
      rw [zee]
      have e1 : (ordN (cmpB x y) != 0) = false := by simp [hc]
      simp only [h2, h3, h4, k3, k4, cond_true, decide_eq_false (show ¬ (i : Int) ≥ (ys.length : Int) by omega), cond_false, zqf, Option.bind_some, e1, zcf (show i < 9223372036854775807 by omega), he]
    · refine ⟨(1, (xs, ys, ordN (cmpB x y))), ?_, by rw [if_neg hc]; rfl⟩
      rw [zee]
      have e1 : (ordN (cmpB x y) != 0) = true := by simpa using hc
      simp only [h2, h3, h4, k3, k4, cond_true, decide_eq_false (show ¬ (i : Int) ≥ (ys.length : Int) by omega), cond_false, zqf, Option.bind_some, e1]
theorem znb [Dfr] (xs ys : List ByteArray) (hx : xs.length ≤ 4611686018427387904) : zeu xs ys = some (ordN (cmpA xs ys)) := by
  obtain ⟨e, he, hr⟩ := zlu xs ys hx xs ys 0 rfl rfl (by omega) (by omega)
  rw [Int.natCast_zero] at he
  rw [zvf, he, Option.bind_some]
  exact hr
theorem zkg [Dfr] (x y : Tc) (hx : x.1.length ≤ 4611686018427387904) : zey x y = some (ordN (cmpT x y)) := by
  rw [zzk, znb _ _ hx, Option.bind_some, qia, Option.bind_some, qec, Option.bind_some]
  show _ = some (ordN (Ordering.then _ _))
  rw [qoy]
theorem zzs [Dfr] (x y : Tc) (hx : x.1.length ≤ 4611686018427387904) : znk x y = some (ordN (cmpT x y)) := by
  rw [qla, zkg x y hx]; rfl
theorem qwp [Dfr] (o : Ordering) : (ordN o == 0) = decide (o = .eq) := by cases o <;> rfl
theorem quy [Dfr] (x y : Tc) (hx : x.1.length ≤ 4611686018427387904) : qef x y = some (decide (cmpT x y = .eq)) := by
  rw [qrg, zkg x y hx, Option.bind_some, qwp]
def zpq (l : List Tc) : Prop := ∀ x ∈ l, x.1.length ≤ 4611686018427387904
theorem zhh [Dfr] (l : List Tc) (hl : l.length ≤ 1000000000) (hs : zpq l) : zgw l = some (canon cmpT l) := by
  rw [qye, zsl l hl, Option.bind_some]
  simp only [Option.bind_fun_some]
  exact qaa (u := .pair (.slice 9 .str) (.int .i64)) ordT (by omega) (fun x hx y hy => (zxn x.1 x.2 y.1 y.2).trans (zkg x y (hs x hx)))
    (fun x hx y hy => (qmv x.1 x.2 y.1 y.2).trans (quy x y (hs x hx)))
theorem zpk [Dfr] (p q : Tc) (hl : p.1.length + q.1.length ≤ 1000000000) : zmv p q = some (zir p q) := by
  rw [qux]
  unfold zir
  by_cases h : p.2 = 1
  · have e : (p.2 != 1) = false := by simp [h]
    rw [e, cond_false, zxy [p.1, q.1] (by simp only [zct]; omega) (by simp), if_pos h]
    simp
  · have e : (p.2 != 1) = true := by simpa using h
    rw [e, cond_true, zzn p.1 (by omega), if_neg h]
    rfl
def qgz (a b : List ByteArray) : Option (List (List ByteArray)) := if a.length + b.length ≤ 1000000 ∧ (zid [] a b).length ≤ 1000000 then some (mixS a b) else none
class qcc [Dfr] : Prop where
  eq : ∀ a b, Dfr.d_trace_Mix a b = qgz a b
theorem ych [Dfr] [qcc] (a b : List ByteArray) (h : a.length + b.length ≤ 19) : qfn a b = some (mixS a b) := by
  rw [qyg]
  show Dfr.d_trace_Mix a b = _
  rw [qcc.eq]
  unfold qgz
  have := qbg (D := []) h
  rw [if_pos ⟨by omega, by omega⟩]
theorem qfm [Dfr] (e : Int) (xs : List (List ByteArray)) (hx : xs.length ≤ 1000000000) : ∀ (r : List (List ByteArray)) (i : Nat) (acc : List Tc), xs.drop i = r → acc.length ≤ i → zpl e acc xs (xs.length : Int) (i : Int) = some (0, acc ++ r.map fun l => (l, e))
  | [], i, acc, h, ha => by
    obtain ⟨h1, h2⟩ := drop_nil h
    rw [zzq]
    simp only [h2, cond_false, List.map_nil, List.append_nil]
  | x :: r, i, acc, h, ha => by
    obtain ⟨h1, h2, h3, h4, h5, h6⟩ := zad h
    rw [zzq]
    simp only [h2, h3, h4, cond_true, room (show (acc.length + 1) * 32 ≤ 140737488355328 by omega), zcf (show i < 9223372036854775807 by omega), qfm e xs hx r (i + 1) (acc ++ [(x, e)]) h5 (by simp; omega), List.map_cons, List.append_assoc, List.singleton_append]
theorem qeg [Dfr] [qcc] (p q : Tc) (h : p.1.length + q.1.length ≤ 19) : zvw p q = some (parE (bs p.2 q.2) p.1 q.1) := by
  have hl := qdv h
  have e0 := qfm (bs p.2 q.2) (mixS p.1 q.1) (by omega) (mixS p.1 q.1) 0 [] rfl (by simp)
  rw [Int.natCast_zero] at e0
  rw [qyf, qny, Option.bind_some, ych _ _ h, Option.bind_some, e0]
  rfl
/-! ### the document's -/
theorem qgr [Dfr] (xs ys : List ByteArray) (hx : xs.length ≤ 4611686018427387904) (hy : ys.length ≤ 4611686018427387904) : ∀ (r s : List ByteArray) (i : Nat), xs.drop i = r → ys.drop i = s → i ≤ xs.length → i ≤ ys.length →
    ∃ e n, zpu xs ys 0 (i : Int) = some e ∧ (bif Nat.beq e.1 0 then (some (w64 ((e.2.1.length : Int) - (e.2.2.1.length : Int)))) else (some e.2.2.2)) = some n ∧ (n < 0 ↔ cmpL cmpB r s = .lt) ∧ (0 < n ↔ cmpL cmpB r s = .gt)
  | [], s, i, h, k, hi, hj => by
    obtain ⟨h1, h2⟩ := drop_nil h
    have hk := congrArg List.length k
    rw [List.length_drop] at hk
    refine ⟨(0, (xs, ys, 0)), (xs.length : Int) - (ys.length : Int), ?_, ?_, ?_⟩
    · rw [zkp]
      simp only [h2, cond_false]
    · show some (w64 ((xs.length : Int) - (ys.length : Int))) = _
      rw [zqz (by omega) (by omega)]
    · cases s with
      | nil => rw [List.length_nil] at hk; exact ⟨by simp [cmpL]; omega, by simp [cmpL]; omega⟩
      | cons y s => rw [List.length_cons] at hk; exact ⟨by simp [cmpL]; omega, by simp [cmpL]; omega⟩
  | x :: r, [], i, h, k, hi, hj => by
    obtain ⟨h1, h2, h3, h4, h5, h6⟩ := zad h
    obtain ⟨k1, k2⟩ := drop_nil k
    refine ⟨(0, (xs, ys, 0)), (xs.length : Int) - (ys.length : Int), ?_, ?_, ?_⟩
    · rw [zkp]
      simp only [h2, k2, cond_false, cond_true]
    · show some (w64 ((xs.length : Int) - (ys.length : Int))) = _
      rw [zqz (by omega) (by omega)]
    · exact ⟨by simp [cmpL]; omega, by simp [cmpL]; omega⟩
  | x :: r, y :: s, i, h, k, hi, hj => by
    obtain ⟨h1, h2, h3, h4, h5, h6⟩ := zad h
    obtain ⟨k1, k2, k3, k4, k5, k6⟩ := zad k
    obtain ⟨e, n, he, hn, hr⟩ := qgr xs ys hx hy r s (i + 1) h5 k5 (by omega) (by omega)
    rw [cmpL]
    cases hc : cmpB x y with
    | lt =>
      refine ⟨(1, (xs, ys, -1)), -1, ?_, rfl, by simp [Ordering.then], by simp [Ordering.then]⟩
      rw [zkp]
      simp only [h2, h3, h4, k2, k3, k4, cond_true, qvj, hc, decide_true]
    | eq =>
      have exy := (ordB.eq x y).1 hc
      refine ⟨e, n, ?_, hn, by simpa [Ordering.then] using hr⟩
      rw [zkp]
      simp only [h2, h3, h4, k2, k3, k4, cond_true, qvj, hc, str_eq, exy, decide_true, Bool.or_true, Bool.not_true, cond_false, zcf (show i < 9223372036854775807 by omega), he]
      simp [ordB.rfl']
    | gt =>
      have exy : x ≠ y := fun e => by rw [e, ordB.rfl'] at hc; cases hc
      refine ⟨(1, (xs, ys, 1)), 1, ?_, rfl, by simp [Ordering.then], by simp [Ordering.then]⟩
      rw [zkp]
      simp only [h2, h3, h4, k2, k3, k4, cond_true, qvj, hc, str_eq, exy, decide_false]
      rfl
theorem ydb [Dfr] (xs ys : List ByteArray) (hx : xs.length ≤ 4611686018427387904) (hy : ys.length ≤ 4611686018427387904) : ∃ n, qgs xs ys = some n ∧ (n < 0 ↔ cmpA xs ys = .lt) ∧ (0 < n ↔ cmpA xs ys = .gt) := by
  obtain ⟨e, n, he, hn, hr⟩ := qgr xs ys hx hy xs ys 0 rfl rfl (by omega) (by omega)
  rw [Int.natCast_zero] at he
  refine ⟨n, ?_, hr⟩
  rw [qzs, he, Option.bind_some]
  exact hn
theorem qar [Dfr] (x y : Tc) (hx : x.1.length ≤ 4611686018427387904) (hy : y.1.length ≤ 4611686018427387904) : zll x y = some (ordN (cmpT x y)) := by
  obtain ⟨n, hn, h1, h2⟩ := ydb x.1 y.1 hx hy
  rw [qlj, hn, Option.bind_some]
  show _ = some (ordN (Ordering.then _ _))
  cases hc : cmpA x.1 y.1 with
  | lt =>
    have a := h1.2 hc
    have e : (n == 0) = false := by simp; omega
    simp only [e, cond_false, decide_eq_true a, cond_true]
    rfl
  | gt =>
    have a := h2.2 hc
    have e : (n == 0) = false := by simp; omega
    simp only [e, cond_false, decide_eq_false (show ¬ n < 0 by omega), decide_eq_true (show n > 0 from a), cond_true]
    rfl
  | eq =>
    have a : n = 0 := by
      have b1 : ¬ n < 0 := fun h => by rw [h1, hc] at h; cases h
      have b2 : ¬ 0 < n := fun h => by rw [h2, hc] at h; cases h
      omega
    subst a
    show _ = some (ordN (cmpI x.2 y.2))
    unfold cmpI
    by_cases c1 : x.2 < y.2
    · simp [c1, ordN]
    · by_cases c2 : x.2 = y.2
      · simp [c2, ordN]
      · have c3 : y.2 < x.2 := by omega
        simp [c1, c2, c3, ordN]
theorem qdm [Dfr] (xs ys : List Tc) (b : Bool) (hx : xs.length ≤ 4611686018427387904) (hl : xs.length = ys.length) (sx : zpq xs) (sy : zpq ys) : ∀ (r : List Tc) (i : Nat), xs.drop i = r → znv xs ys b (i : Int) = some (if r = ys.drop i then (0, b) else (1, false))
  | [], i, h => by
    rw [zze]
    obtain ⟨h1, h2⟩ := drop_nil h
    simp only [h2, cond_false, List.drop_eq_nil_of_le (show ys.length ≤ i by omega), if_true]
  | x :: r, i, h => by
    rw [zze]
    obtain ⟨h1, h2, h3, h4, h5, h6⟩ := zad h
    cases hy : ys.drop i with
    | nil => have := List.drop_eq_nil_iff.1 hy; omega
    | cons y s =>
      obtain ⟨k1, k2, k3, k4, k5, k6⟩ := zad hy
      have mx : x ∈ xs := List.mem_of_mem_drop (by rw [h]; exact List.mem_cons_self ..)
      have my : y ∈ ys := List.mem_of_mem_drop (by rw [hy]; exact List.mem_cons_self ..)
      have e0 : (ordN (cmpT x y) != 0) = !decide (x = y) := by
        rw [← decide_eq_decide.2 (ordT.eq x y), ← qwp]; rfl
      simp only [h2, h3, h4, k3, k4, cond_true, qar x y (sx x mx) (sy y my), Option.bind_some, e0, zcf (show i < 9223372036854775807 by omega), qdm xs ys b hx hl sx sy r (i + 1) h5, k5]
      by_cases e : x = y
      · simp [e]
      · simp [e]
theorem qzr [Dfr] (xs ys : List Tc) (hx : xs.length ≤ 4611686018427387904) (sx : zpq xs) (sy : zpq ys) : qck xs ys = some (decide (xs = ys)) := by
  rw [qwk]
  by_cases hl : xs.length = ys.length
  · have h1 : ((xs.length : Int) != (ys.length : Int)) = false := by simp [hl]
    have := qdm xs ys false hx hl sx sy xs 0 rfl
    simp only [Int.natCast_zero, List.drop_zero] at this
    simp only [h1, cond_false, this, Option.bind_some]
    by_cases e : xs = ys <;> simp [e, Nat.beq]
  · have h1 : ((xs.length : Int) != (ys.length : Int)) = true := by simp; omega
    have h2 : xs ≠ ys := fun e => hl (by rw [e])
    simp [h1, h2]
theorem qoa [Dfr] {l : List Tc} (h : zpq l) : zpq (canon cmpT l) := fun x hx => h x ((zbv ordT).1 hx)
end Go.Proofs.YtjogkjgpbeenfaaGreatDoor.Sv
