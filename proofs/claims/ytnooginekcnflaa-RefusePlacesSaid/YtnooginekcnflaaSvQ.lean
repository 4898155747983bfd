/- What the functions of the Refuse seat compute, in plain words. -/
import Derived.Test.YtnooginekcnflaaSvF
import Derived.Test.YtnooginekcnflaaEvFe
namespace Go.Proofs.Ytnooginekcnflaa.Sv
open Go Go.Sv
set_option linter.unusedVariables false
set_option linter.unusedSimpArgs false

abbrev Nd := T38.den
theorem alive : Evt (fun k => f8 k) true := Evt.of_run (K := 12) (show run E 12 8 () = some true by kernel_rfl)

/-! ### where an atom stands -/
def isAt (a : ByteArray) (t : Nd) : Bool := (t.1 == 1) && (t.2.1.toList == a.toList)
def pl (a : ByteArray) : List Nd → Nat → List Int
  | [], _ => []
  | t :: ts, i => bif isAt a t then (i : Int) :: pl a ts (i + 1) else pl a ts (i + 1)
theorem pl_len (a : ByteArray) : ∀ (l : List Nd) (i : Nat), (pl a l i).length ≤ l.length
  | [], i => Nat.le_refl _
  | t :: ts, i => by
    simp only [pl]
    have := pl_len a ts (i + 1)
    cases isAt a t <;> simp <;> omega

theorem places_loop (a : ByteArray) (xs : List Nd) (hx : xs.length ≤ 1000000) : ∀ (d i : Nat) (acc : List Int), i + d = xs.length → acc.length ≤ i → EvL (fun k n => l10_0 k n a acc xs (xs.length : Int) (i : Int)) (0, acc ++ pl a (xs.drop i) i)
  | 0, i, acc, h, ha => by
    refine EvL.succ ?_
    have h1 : xs.drop i = [] := List.drop_eq_nil_of_le (by omega)
    have h2 : decide ((i : Int) < (xs.length : Int)) = false := by simp; omega
    simp only [l10_0_eq, h2, cond_false, h1, pl, List.append_nil]
    exact EvL.ret _
  | d + 1, i, acc, h, ha => by
    refine EvL.succ ?_
    have hi : i < xs.length := by omega
    have h1 : xs.drop i = xs[i] :: xs.drop (i + 1) := List.drop_eq_getElem_cons hi
    have h2 : decide ((i : Int) < (xs.length : Int)) = true := by simp; omega
    have hr : roomOk (acc.length + 1) 8 = true := roomOk_of (by omega)
    have hrd : rd (.pair (.int .i64) (.pair .str (.int .i64))) xs (i : Int) = xs[i] := rd_nat hi
    simp only [l10_0_eq, h2, cond_true, idxOk_nat hi, hrd, wrap_succ (show i < 9223372036854775807 by omega), hr, h1, pl, isAt]
    have ih1 := places_loop a xs hx d (i + 1) acc (by omega) (by omega)
    have ih2 := places_loop a xs hx d (i + 1) (acc ++ [(i : Int)]) (by omega) (by simp; omega)
    cases (xs[i].1 == 1) with
    | false => simpa only [cond_false, Bool.false_and] using ih1
    | true =>
      simp only [cond_true, Bool.true_and]
      cases (xs[i].2.1.toList == a.toList) with
      | false => simpa only [cond_false] using ih1
      | true => simpa only [cond_true, List.append_assoc, List.singleton_append] using ih2

theorem places (a : ByteArray) (xs : List Nd) (hx : xs.length ≤ 1000000) : Evt (fun k => f10 k xs a) (pl a xs 0) := by
  refine Evt.succ ?_
  simp only [f10_eq]
  refine Evt.bind (places_loop a xs hx xs.length 0 [] (by omega) (by simp)).diag ?_
  exact Evt.ret _

theorem places2_loop (a : ByteArray) (xs : List Nd) (hx : xs.length ≤ 1000000) : ∀ (d i : Nat) (acc : List Int), i + d = xs.length → acc.length ≤ i → EvL (fun k n => l13_0 k n xs a acc (i : Int)) (0, acc ++ pl a (xs.drop i) i)
  | 0, i, acc, h, ha => by
    refine EvL.succ ?_
    have h1 : xs.drop i = [] := List.drop_eq_nil_of_le (by omega)
    have h2 : decide ((i : Int) < (xs.length : Int)) = false := by simp; omega
    simp only [l13_0_eq, h2, cond_false, h1, pl, List.append_nil]
    exact EvL.ret _
  | d + 1, i, acc, h, ha => by
    refine EvL.succ ?_
    have hi : i < xs.length := by omega
    have h1 : xs.drop i = xs[i] :: xs.drop (i + 1) := List.drop_eq_getElem_cons hi
    have h2 : decide ((i : Int) < (xs.length : Int)) = true := by simp; omega
    have hr : roomOk (acc.length + 1) 8 = true := roomOk_of (by omega)
    have hrd : rd (.pair (.int .i64) (.pair .str (.int .i64))) xs (i : Int) = xs[i] := rd_nat hi
    simp only [l13_0_eq, h2, cond_true, idxOk_nat hi, hrd, wrap_succ (show i < 9223372036854775807 by omega), hr, h1, pl, isAt]
    have ih1 := places2_loop a xs hx d (i + 1) acc (by omega) (by omega)
    have ih2 := places2_loop a xs hx d (i + 1) (acc ++ [(i : Int)]) (by omega) (by simp; omega)
    cases (xs[i].1 == 1) with
    | false => simpa only [cond_false, Bool.false_and] using ih1
    | true =>
      simp only [cond_true, Bool.true_and]
      cases (xs[i].2.1.toList == a.toList) with
      | false => simpa only [cond_false] using ih1
      | true => simpa only [cond_true, List.append_assoc, List.singleton_append] using ih2

theorem places2 (a : ByteArray) (xs : List Nd) (hx : xs.length ≤ 1000000) : Evt (fun k => f13 k xs a) (pl a xs 0) := by
  refine Evt.succ ?_
  simp only [f13_eq]
  refine Evt.bind (places2_loop a xs hx xs.length 0 [] (by omega) (by simp)).diag ?_
  exact Evt.ret _

/-! ### two rows alike -/
def ndEq (t u : Nd) : Bool := (t.1 == u.1) && ((t.2.1.toList == u.2.1.toList) && (t.2.2 == u.2.2))
theorem toList_inj {a b : ByteArray} (h : a.toList = b.toList) : a = b := by
  rw [ByteArray.toList_eq, ByteArray.toList_eq] at h
  obtain ⟨⟨x⟩⟩ := a
  obtain ⟨⟨y⟩⟩ := b
  simp only at h
  rw [h]
theorem ndEq_iff {t u : Nd} : ndEq t u = true ↔ t = u := by
  unfold ndEq
  simp only [Bool.and_eq_true, beq_iff_eq]
  constructor
  · rintro ⟨h1, h2, h3⟩
    exact Prod.ext h1 (Prod.ext (toList_inj h2) h3)
  · rintro rfl; exact ⟨rfl, rfl, rfl⟩
def same : List Nd → List Nd → Bool
  | [], [] => true
  | t :: ts, u :: us => ndEq t u && same ts us
  | _, _ => false
theorem same_iff : ∀ {xs ys : List Nd}, same xs ys = true ↔ xs = ys
  | [], [] => by simp [same]
  | [], y :: ys => by simp [same]
  | x :: xs, [] => by simp [same]
  | x :: xs, y :: ys => by simp only [same, Bool.and_eq_true, ndEq_iff, same_iff, List.cons.injEq]

theorem same_loop (xs ys : List Nd) (hl : xs.length = ys.length) (hx : xs.length ≤ 1000000) (y4 : Bool) : ∀ (d i : Nat), i + d = xs.length → EvL (fun k n => l11_0 k n xs ys y4 (i : Int)) (bif same (xs.drop i) (ys.drop i) then (0, y4) else (1, false))
  | 0, i, h => by
    refine EvL.succ ?_
    have h1 : xs.drop i = [] := List.drop_eq_nil_of_le (by omega)
    have h1' : ys.drop i = [] := List.drop_eq_nil_of_le (by omega)
    have h2 : decide ((i : Int) < (xs.length : Int)) = false := by simp; omega
    simp only [l11_0_eq, h2, cond_false, h1, h1', same, cond_true]
    exact EvL.ret _
  | d + 1, i, h => by
    refine EvL.succ ?_
    have hi : i < xs.length := by omega
    have hi' : i < ys.length := by omega
    have h1 : xs.drop i = xs[i] :: xs.drop (i + 1) := List.drop_eq_getElem_cons hi
    have h1' : ys.drop i = ys[i] :: ys.drop (i + 1) := List.drop_eq_getElem_cons hi'
    have h2 : decide ((i : Int) < (xs.length : Int)) = true := by simp; omega
    have hrd : rd (.pair (.int .i64) (.pair .str (.int .i64))) xs (i : Int) = xs[i] := rd_nat hi
    have hrd' : rd (.pair (.int .i64) (.pair .str (.int .i64))) ys (i : Int) = ys[i] := rd_nat hi'
    simp only [l11_0_eq, h2, cond_true, idxOk_nat hi, idxOk_nat hi', hrd, hrd', wrap_succ (show i < 9223372036854775807 by omega), h1, h1', same]
    have ih := same_loop xs ys hl hx y4 d (i + 1) (by omega)
    show EvL _ (bif ndEq xs[i] ys[i] && _ then _ else _)
    rw [show ((xs[i].1 == ys[i].1) && ((xs[i].2.1.toList == ys[i].2.1.toList) && (xs[i].2.2 == ys[i].2.2))) = ndEq xs[i] ys[i] from rfl]
    cases ndEq xs[i] ys[i] with
    | false => simp only [Bool.not_false, cond_true, Bool.false_and, cond_false]; exact EvL.ret _
    | true => simp only [Bool.not_true, cond_false, Bool.true_and]; exact ih

theorem same_f (xs ys : List Nd) (hx : xs.length ≤ 1000000) : Evt (fun k => f11 k xs ys) (same xs ys) := by
  refine Evt.succ ?_
  simp only [f11_eq]
  by_cases hl : xs.length = ys.length
  · have h1 : ((xs.length : Int) != (ys.length : Int)) = false := by simp [hl]
    simp only [h1, cond_false]
    have := (same_loop xs ys hl hx false xs.length 0 (by omega)).diag
    simp only [List.drop_zero] at this
    refine Evt.bind this ?_
    cases same xs ys <;> exact Evt.ret _
  · have h1 : ((xs.length : Int) != (ys.length : Int)) = true := by simp; omega
    have h2 : same xs ys = false := by
      cases h : same xs ys with
      | false => rfl
      | true => exact absurd (congrArg List.length (same_iff.1 h)) hl
    simp only [h1, cond_true, h2]
    exact Evt.ret _

/-! ### one row of several -/
theorem clone (xs : List Nd) (hx : xs.length ≤ 1000000) : Evt (fun k => f23 k xs) xs := by
  refine Evt.succ ?_
  have hr : roomOk xs.length 32 = true := roomOk_of (by omega)
  simp only [f23_eq, spec23, hr, cond_true]
  exact Evt.ret _

def total : List (List Nd) → Nat
  | [] => 0
  | x :: r => x.length + total r

theorem concat_len (xs : List (List Nd)) (hx : total xs ≤ 1000000) (hn : xs.length ≤ 1000000) : ∀ (r : List (List Nd)) (i acc : Nat), xs.drop i = r → acc + total r ≤ 1000000 → EvL (fun k n => l24_0 k n xs (acc : Int) xs (xs.length : Int) (i : Int)) (0, (xs, ((acc + total r : Nat) : Int)))
  | [], i, acc, h, ha => by
    refine EvL.succ ?_
    have hi : xs.length ≤ i := List.drop_eq_nil_iff.1 h
    have h2 : decide ((i : Int) < (xs.length : Int)) = false := by simp; omega
    simp only [l24_0_eq, h2, cond_false, total, Nat.add_zero]
    exact EvL.ret _
  | x :: r, i, acc, h, ha => by
    refine EvL.succ ?_
    simp only [total] at ha
    have hi : i < xs.length := by
      rcases Nat.lt_or_ge i xs.length with h' | h'
      · exact h'
      · rw [List.drop_eq_nil_of_le h'] at h; cases h
    have h2 : decide ((i : Int) < (xs.length : Int)) = true := by simp; omega
    have h3 := (List.drop_eq_getElem_cons hi).symm.trans h
    simp only [List.cons.injEq] at h3
    have hrd : rd (.slice 38 (.pair (.int .i64) (.pair .str (.int .i64)))) xs (i : Int) = x := (rd_nat hi).trans h3.1
    have hw : IntKind.wrap .i64 ((acc : Int) + (x.length : Int)) = ((acc + x.length : Nat) : Int) := by rw [wrap_id (by omega) (by omega)]; rfl
    have h4 : decide (((acc + x.length : Nat) : Int) < 0) = false := by simp; omega
    simp only [l24_0_eq, h2, cond_true, idxOk_nat hi, hrd, hw, h4, cond_false, wrap_succ (show i < 9223372036854775807 by omega), total]
    have := concat_len xs hx hn r (i + 1) (acc + x.length) h3.2 (by omega)
    rw [Nat.add_assoc] at this
    exact this

theorem concat_go (xs : List (List Nd)) (hn : xs.length ≤ 1000000) : ∀ (r : List (List Nd)) (i : Nat) (acc : List Nd), xs.drop i = r → acc.length + total r ≤ 1000000 → EvL (fun k n => l24_2 k n acc xs (xs.length : Int) (i : Int)) (0, acc ++ r.flatten)
  | [], i, acc, h, ha => by
    refine EvL.succ ?_
    have hi : xs.length ≤ i := List.drop_eq_nil_iff.1 h
    have h2 : decide ((i : Int) < (xs.length : Int)) = false := by simp; omega
    simp only [l24_2_eq, h2, cond_false, List.flatten_nil, List.append_nil]
    exact EvL.ret _
  | x :: r, i, acc, h, ha => by
    refine EvL.succ ?_
    simp only [total] at ha
    have hi : i < xs.length := by
      rcases Nat.lt_or_ge i xs.length with h' | h'
      · exact h'
      · rw [List.drop_eq_nil_of_le h'] at h; cases h
    have h2 : decide ((i : Int) < (xs.length : Int)) = true := by simp; omega
    have h3 := (List.drop_eq_getElem_cons hi).symm.trans h
    simp only [List.cons.injEq] at h3
    have hrd : rd (.slice 38 (.pair (.int .i64) (.pair .str (.int .i64)))) xs (i : Int) = x := (rd_nat hi).trans h3.1
    have hr : roomOk (acc.length + x.length) 32 = true := roomOk_of (by omega)
    simp only [l24_2_eq, h2, cond_true, idxOk_nat hi, hrd, hr, wrap_succ (show i < 9223372036854775807 by omega), List.flatten_cons]
    have := concat_go xs hn r (i + 1) (acc ++ x) h3.2 (by simp; omega)
    rw [List.append_assoc] at this
    exact this

theorem grow (n : Nat) (hn : n ≤ 1000000) : Evt (fun k => f28 k () (n : Int)) [] := by
  refine Evt.succ ?_
  have hw : IntKind.wrap .i64 ((n : Int) - 0) = (n : Int) := by rw [Int.sub_zero]; exact wrap_nat (by omega)
  have h1 : decide ((n : Int) < 0) = false := by simp
  have hr : roomOk n 32 = true := roomOk_of (by omega)
  have h3 : decide (0 ≤ (n : Int)) = true := by simp
  simp only [f28_eq, hw, h1, cond_false, Int.toNat_natCast, hr, h3, Bool.and_self, cond_true]
  by_cases h0 : n = 0
  · subst h0
    exact Evt.ret _
  · have h2 : decide ((n : Int) > 0) = true := by simp; omega
    simp only [h2, cond_true, List.length_replicate]
    have hc : cutOk 0 0 n = true := by unfold cutOk; simp
    simp only [hc, cond_true]
    have : cut (List.replicate n (Ty.dflt (.pair (.int .i64) (.pair .str (.int .i64))))) 0 0 = [] := by simp [cut]
    simp only [this]
    exact Evt.ret _

theorem concat (xs : List (List Nd)) (hx : total xs ≤ 1000000) (hn : xs.length ≤ 1000000) : Evt (fun k => f24 k xs) xs.flatten := by
  refine Evt.succ ?_
  simp only [f24_eq]
  have h1 := (concat_len xs hx hn xs 0 0 rfl (by omega)).diag
  refine Evt.bind h1 ?_
  simp only [Nat.zero_add]
  refine Evt.bind (grow (total xs) hx) ?_
  have h2 := (concat_go xs hn xs 0 [] rfl (by simpa using hx)).diag
  refine Evt.bind h2 ?_
  exact Evt.ret _

end Go.Proofs.Ytnooginekcnflaa.Sv
