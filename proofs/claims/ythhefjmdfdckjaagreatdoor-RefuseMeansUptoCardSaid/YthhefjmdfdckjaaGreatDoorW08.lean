/- What the functions of refusing compute (package refuse, redressref08): in plain words. -/
import Derived.Test.YthhefjmdfdckjaaGreatDoorW03
import Derived.Test.YthhefjmdfdckjaaGreatDoorM8
namespace Go.Proofs.YthhefjmdfdckjaaGreatDoor.Sv
open Go Go.Sv Go.Rd
set_option linter.unusedVariables false
set_option linter.unusedSimpArgs false

theorem hit_eq [Dfr] (names : List ByteArray) (n : Nd) {h : n.1 = 1} : decide (n.2.1 ∈ names) = hit names n := by simp [hit, h]

theorem hit_not [Dfr] (names : List ByteArray) (n : Nd) (h : ¬ n.1 = 1) : hit names n = false := by simp [hit, h]

theorem refuse_Rewrite_l [Dfr] (l : List Nd) (names : List ByteArray) (y : List Nd) (hl : l.length ≤ 4000000) (hn : names.length ≤ 1000000) : ∀ (r : List Nd) (i : Nat) (acc : List Nd), l.drop i = r → acc.length ≤ 3 * i → refuse_Rewrite_l1000 l names y acc (i : Int) = some (0, acc ++ rewR names r)
  | [], i, acc, h, ha => by
    obtain ⟨h1, h2⟩ := drop_nil h
    rw [refuse_Rewrite_l1000_eq, decide_eq_true (show (i : Int) ≥ (l.length : Int) by omega)]
    simp [rewR]
  | x :: r, i, acc, h, ha => by
    obtain ⟨h1, h2, h3, h4, h5, h6⟩ := drop_cons h
    rw [refuse_Rewrite_l1000_eq, decide_eq_false (show ¬ (i : Int) ≥ (l.length : Int) by omega)]
    have ih1 := refuse_Rewrite_l l names y hl hn r (i + 1) (acc ++ [x]) h5 (by simp; omega)
    have ih3 := refuse_Rewrite_l l names y hl hn r (i + 1) (acc ++ rf x) h5 (by simp [rf]; omega)
    simp only [cond_false, h3, h4, cond_true, int_eq, slices_Contains__string_s names _ (show names.length ≤ 4611686018427387904 by omega), refuse_refusable_eq, Option.bind_some, w_succ (show i < 9223372036854775807 by omega), room (show (acc.length + 1) * 32 ≤ 140737488355328 by omega), room (show (acc.length + [((6 : Int), ByteArray.empty, (0 : Int)), x, (3, ByteArray.empty, 0)].length) * 32 ≤ 140737488355328 by simp; omega), rewR_cons, rw1]
    by_cases hk : x.1 = 1
    · simp only [hk, decide_true, cond_true, hit_eq names x (h := hk)]
      cases hit names x
      · simp only [cond_false, ih1, List.append_assoc]
      · simp only [cond_true]
        exact ih3.trans (by rw [List.append_assoc])
    · simp only [hk, decide_false, cond_false, hit_not names x hk, ih1, List.append_assoc]

theorem refuse_Rewrite_s [Dfr] (l : List Nd) (names : List ByteArray) (hl : l.length ≤ 4000000) (hn : names.length ≤ 1000000) : refuse_Rewrite l names = some (rewR names l) := by
  rw [refuse_Rewrite_eq]
  cases l with
  | nil => rfl
  | cons x r =>
    have hd : (x :: r).drop 1 = r := rfl
    have ih1 := refuse_Rewrite_l (x :: r) names [] hl hn r 1 [x] hd (by simp)
    have ih3 := refuse_Rewrite_l (x :: r) names [] hl hn r 1 (rf x) hd (by simp [rf])
    rw [decide_eq_false (show ¬ (0 : Int) ≥ ((x :: r).length : Int) by simp only [List.length_cons]; omega)]
    simp only [cond_false, idxOk_zero (show 0 < (x :: r).length by simp), cond_true, ix_zero, int_eq, slices_Contains__string_s names _ (show names.length ≤ 4611686018427387904 by omega), refuse_refusable_eq, Option.bind_some, room (show (0 + [((6 : Int), ByteArray.empty, (0 : Int)), x, (3, ByteArray.empty, 0)].length) * 32 ≤ 140737488355328 by simp), rewR_cons, rw1, List.nil_append]
    rw [show ((1 : Nat) : Int) = 1 from rfl] at ih1 ih3
    by_cases hk : x.1 = 1
    · simp only [hk, decide_true, cond_true, hit_eq names x (h := hk)]
      cases hit names x
      · simp only [cond_false, ih1]; rfl
      · simp only [cond_true]
        rw [show refuse_Rewrite_l1000 (x :: r) names [] [((6 : Int), ByteArray.empty, (0 : Int)), x, (3, ByteArray.empty, 0)] 1 = _ from ih3]; rfl
    · simp only [hk, decide_false, cond_false, hit_not names x hk, ih1]; rfl

theorem refuse_Places_l [Dfr] (a : ByteArray) (l : List Nd) (hl : l.length ≤ 4000000) : ∀ (r : List Nd) (i : Nat) (acc : List Int), l.drop i = r → acc.length ≤ i → refuse_Places_l0 a acc l (l.length : Int) (i : Int) = some (0, acc ++ placesR a r i)
  | [], i, acc, h, ha => by
    obtain ⟨h1, h2⟩ := drop_nil h
    rw [refuse_Places_l0_eq]
    simp only [h2, cond_false, placesR, List.append_nil]
  | x :: r, i, acc, h, ha => by
    obtain ⟨h1, h2, h3, h4, h5, h6⟩ := drop_cons h
    rw [refuse_Places_l0_eq]
    have ih1 := refuse_Places_l a l hl r (i + 1) acc h5 (by omega)
    have ih2 := refuse_Places_l a l hl r (i + 1) (acc ++ [(i : Int)]) h5 (by simp; omega)
    simp only [h2, h3, h4, cond_true, int_eq, str_eq, w_succ (show i < 9223372036854775807 by omega), room (show (acc.length + 1) * 8 ≤ 140737488355328 by omega), ih1, ih2, placesR, isAt]
    cases decide (x.1 = 1) <;> cases decide (x.2.1 = a) <;> simp

theorem refuse_Places_s [Dfr] (l : List Nd) (a : ByteArray) (hl : l.length ≤ 4000000) : refuse_Places l a = some (placesR a l 0) := by
  rw [refuse_Places_eq]
  have := refuse_Places_l a l hl l 0 [] rfl (by simp)
  rw [Int.natCast_zero] at this
  rw [this]; rfl

theorem refuse_Strip_l [Dfr] (l : List Nd) (y : List Nd) (hl : l.length ≤ 1000000) : ∀ (n : Nat) (i : Nat) (acc : List Nd), l.length - i ≤ n → acc.length ≤ i → i ≤ l.length → refuse_Strip_l1000 l y acc (i : Int) = some (0, acc ++ stripR (l.drop i)) := by
  intro n
  induction n with
  | zero =>
    intro i acc hn ha hi
    rw [refuse_Strip_l1000_eq, decide_eq_true (show (i : Int) ≥ (l.length : Int) by omega), List.drop_eq_nil_of_le (by omega)]
    simp [stripR]
  | succ n ih =>
    intro i acc hn ha hi
    rw [refuse_Strip_l1000_eq]
    match hd : l.drop i with
    | [] =>
      obtain ⟨h1, h2⟩ := drop_nil hd
      rw [decide_eq_true (show (i : Int) ≥ (l.length : Int) by omega)]
      simp [stripR]
    | x :: r =>
      obtain ⟨h1, h2, h3, h4, h5, h6⟩ := drop_cons hd
      have e1 : w64 ((i : Int) + 1) = ((i + 1 : Nat) : Int) := w_succ (by omega)
      have e2 : w64 ((i : Int) + 2) = ((i + 2 : Nat) : Int) := by rw [w64_id (by omega) (by omega)]; rfl
      have e3 : w64 ((i : Int) + 3) = ((i + 3 : Nat) : Int) := by rw [w64_id (by omega) (by omega)]; rfl
      have e4 : w64 (((i + 1 : Nat) : Int) + 2) = ((i + 3 : Nat) : Int) := by rw [w64_id (by omega) (by omega)]; omega
      have ih1 := ih (i + 1) (acc ++ [x]) (by omega) (by simp; omega) (by omega)
      rw [h5, List.append_assoc] at ih1
      rw [decide_eq_false (show ¬ (i : Int) ≥ (l.length : Int) by omega)]
      simp only [cond_false, e1, e2, e3, e4, h3, h4, cond_true, room (show (acc.length + 1) * 32 ≤ 140737488355328 by omega), ih1]
      match r, h5, h6, hd with
      | [], h5, h6, hd =>
        rw [decide_eq_false (show ¬ ((i + 2 : Nat) : Int) < (l.length : Int) by simp at h6; omega)]
        simp [stripR]
      | [b], h5, h6, hd =>
        rw [decide_eq_false (show ¬ ((i + 2 : Nat) : Int) < (l.length : Int) by simp at h6; omega)]
        simp [stripR]
      | b :: c :: s, h5, h6, hd =>
        obtain ⟨k1, k2, k3, k4, k5, k6⟩ := drop_cons h5
        obtain ⟨j1, j2, j3, j4, j5, j6⟩ := drop_cons k5
        rw [decide_eq_true (show ((i + 2 : Nat) : Int) < (l.length : Int) by omega)]
        have hc : cut l (i : Int) ((i + 3 : Nat) : Int) = [x, b, c] := by rw [cut_nat, List.drop_take, hd]; simp
        have hok : cutOk (i : Int) ((i + 3 : Nat) : Int) l.length = true := cutOk_nat (by omega) (by omega)
        simp only [cond_true, k3, k4, int_eq, hok, refuse_refusable_eq, Option.bind_some, hc, slices_Equal__api_Node_s _ _ (show ([x, b, c] : List Nd).length ≤ 4611686018427387904 by simp), room (show (acc.length + 1) * 32 ≤ 140737488355328 by omega)]
        have ih3 := ih (i + 3) (acc ++ [b]) (by omega) (by simp; omega) (by omega)
        rw [show l.drop (i + 3) = s from j5, List.append_assoc] at ih3
        by_cases hb : b.1 = 1
        · have hdec : decide (([x, b, c] : List Nd) = [((6 : Int), ByteArray.empty, (0 : Int)), b, (3, ByteArray.empty, 0)]) = decide (x = nd 6 ∧ c = nd 3) := by
            rw [decide_eq_decide]
            constructor
            · intro e; injection e with e5 e; injection e with _ e; injection e with e6 _; exact ⟨e5, e6⟩
            · rintro ⟨rfl, rfl⟩; rfl
          simp only [hb, decide_true, cond_true, hdec]
          by_cases hp : x = nd 6 ∧ c = nd 3
          · rw [decide_eq_true hp]
            obtain ⟨rfl, rfl⟩ := hp
            simp only [cond_true, ih3, stripR_hit hb]; rfl
          · rw [decide_eq_false hp]
            simp only [cond_false, stripR_cons (fun h : x = nd 6 ∧ b.1 = 1 ∧ c = nd 3 => hp ⟨h.1, h.2.2⟩)]; rfl
        · simp only [hb, decide_false, cond_false]
          rw [stripR_cons (fun h => hb h.2.1)]; rfl

theorem refuse_Strip_s [Dfr] (l : List Nd) (hl : l.length ≤ 1000000) : refuse_Strip l = some (stripR l) := by
  have h0 := refuse_Strip_l l [] hl l.length 0 [] (by omega) (by simp) (by omega)
  rw [refuse_Strip_l1000_eq] at h0
  rw [refuse_Strip_eq]
  cases l with
  | nil => simp [stripR]
  | cons x r =>
    have hne : decide (((0 : Nat) : Int) ≥ ((x :: r).length : Int)) = false := decide_eq_false (by simp only [List.length_cons]; omega)
    rw [hne] at h0
    have hne' : decide ((0 : Int) ≥ ((x :: r).length : Int)) = false := hne
    rw [hne']
    have rm : roomOk (([] : List Nd).length + 1) 32 = true := room (by simp)
    have lim : ∀ (q : Option (Nat × List Nd)) (z : List Nd), q = some (0, z) → (q.bind fun r7 => some r7.2) = some z := fun q z h => by rw [h]; rfl
    simp only [cond_false, rm, cond_true, Int.natCast_zero, show w64 (0 + 2) = 2 from rfl, show w64 (0 + 1) = 1 from rfl, show w64 (0 + 3) = 3 from rfl, show w64 (1 + 2) = 3 from rfl, List.nil_append, List.drop_zero, idxOk_zero (show 0 < (x :: r).length by simp)] at h0 ⊢
    cases c1 : decide ((2 : Int) < ((x :: r).length : Int)) with
    | false =>
      rw [c1] at h0
      simp only [cond_false] at h0 ⊢
      exact lim _ _ h0
    | true =>
      rw [c1] at h0
      simp only [cond_true] at h0 ⊢
      cases c2 : idxOk 1 (x :: r).length with
      | false => rw [c2] at h0; cases h0
      | true =>
        rw [c2] at h0
        simp only [cond_true] at h0 ⊢
        cases c3 : ((ix (x :: r) 1).1 == 1) with
        | false =>
          rw [c3] at h0
          simp only [cond_false] at h0 ⊢
          exact lim _ _ h0
        | true =>
          rw [c3] at h0
          simp only [cond_true] at h0 ⊢
          cases c4 : cutOk 0 3 (x :: r).length with
          | false => rw [c4] at h0; cases h0
          | true =>
            rw [c4] at h0
            simp only [cond_true, refuse_refusable_eq, Option.bind_some] at h0 ⊢
            generalize slices_Equal__api_Node (cut (x :: r) 0 3) _ = q at h0 ⊢
            cases q with
            | none => cases h0
            | some b =>
              simp only [Option.bind_some] at h0 ⊢
              cases b with
              | true => simp only [cond_true] at h0 ⊢; exact lim _ _ h0
              | false => simp only [cond_false] at h0 ⊢; exact lim _ _ h0

end Go.Proofs.YthhefjmdfdckjaaGreatDoor.Sv
