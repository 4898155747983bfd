/- Rows whose actions may be refused. Plain Lean, no program in sight. -/
import Derived.Test.YthhefjmdfdckjaaGreatDoorM3
namespace Go.Rd
open Go Go.Sv
set_option linter.unusedVariables false
set_option linter.unusedSimpArgs false

def rf (n : Nd) : List Nd := [nd 6, n, nd 3]
/-- An action of one of the names. -/
def hit (names : List ByteArray) (n : Nd) : Bool := decide (n.1 = 1) && decide (n.2.1 ∈ names)

def rw1 (names : List ByteArray) (n : Nd) : List Nd := bif hit names n then rf n else [n]

def rewR (names : List ByteArray) (l : List Nd) : List Nd := l.flatMap (rw1 names)

def isAt (a : ByteArray) (n : Nd) : Bool := decide (n.1 = 1) && decide (n.2.1 = a)

def placesR (a : ByteArray) : List Nd → Nat → List Int
  | [], _ => []
  | n :: r, i => bif isAt a n then (i : Int) :: placesR a r (i + 1) else placesR a r (i + 1)

def markR (l : List Nd) (at_ : Int) (i : Nat) : List Nd := match l with
  | [] => []
  | n :: r => (bif decide ((i : Int) = at_) && decide (n.1 = 1) then rf n else [n]) ++ markR r at_ (i + 1)

def stripR : List Nd → List Nd
  | [] => []
  | [a] => [a]
  | [a, b] => [a, b]
  | a :: b :: c :: r => if a = nd 6 ∧ b.1 = 1 ∧ c = nd 3 then b :: stripR r else a :: stripR (b :: c :: r)
termination_by l => l.length

theorem placesR_len (a : ByteArray) : ∀ (l : List Nd) (i : Nat), (placesR a l i).length = l.countP (isAt a)
  | [], i => rfl
  | n :: r, i => by
    simp only [placesR, List.countP_cons]
    cases h : isAt a n <;> simp [placesR_len a r (i + 1)]

theorem rewR_len (names : List ByteArray) : ∀ l : List Nd, (rewR names l).length = l.length + 2 * l.countP (hit names)
  | [] => rfl
  | n :: r => by
    have := rewR_len names r
    unfold rewR at this ⊢
    simp only [List.flatMap_cons, List.length_append, List.length_cons, List.countP_cons, this, rw1]
    cases hit names n <;> simp [rf] <;> omega

theorem rewR_cons (names : List ByteArray) (n : Nd) (r : List Nd) : rewR names (n :: r) = rw1 names n ++ rewR names r := rfl

theorem rewR_append (names : List ByteArray) (a b : List Nd) : rewR names (a ++ b) = rewR names a ++ rewR names b := List.flatMap_append ..

/-- One name more. -/
theorem hit_snoc (ns : List ByteArray) (s : ByteArray) (l : List Nd) : l.countP (hit (ns ++ [s])) = l.countP (hit ns) + (if s ∈ ns then 0 else l.countP (isAt s)) := by
  by_cases hs : s ∈ ns
  · rw [if_pos hs, Nat.add_zero]
    have : hit (ns ++ [s]) = hit ns := funext fun n => by
      unfold hit
      congr 1
      rw [decide_eq_decide]
      simp only [List.mem_append, List.mem_singleton]
      exact ⟨fun h => by rcases h with h | h; exact h; exact h ▸ hs, .inl⟩
    rw [this]
  · rw [if_neg hs]
    induction l with
    | nil => rfl
    | cons n r ih =>
      simp only [List.countP_cons, ih]
      have : ((if hit (ns ++ [s]) n = true then 1 else 0) : Nat) = (if hit ns n = true then 1 else 0) + (if isAt s n = true then 1 else 0) := by
        unfold hit isAt
        by_cases h1 : n.1 = 1
        · by_cases h2 : n.2.1 = s
          · simp [h1, h2, hs]
          · simp [h1, h2]
        · simp [h1]
      omega

theorem stripR_le : ∀ l : List Nd, (stripR l).length ≤ l.length := by
  intro l
  fun_induction stripR l <;> simp_all <;> omega

theorem stripR_cons {a b c : Nd} {r : List Nd} (h : ¬ (a = nd 6 ∧ b.1 = 1 ∧ c = nd 3)) : stripR (a :: b :: c :: r) = a :: stripR (b :: c :: r) := by rw [stripR, if_neg h]

theorem stripR_hit {b : Nd} {r : List Nd} (h : b.1 = 1) : stripR (nd 6 :: b :: nd 3 :: r) = b :: stripR r := by rw [stripR, if_pos ⟨rfl, h, rfl⟩]

theorem stripR_one (a : Nd) (r : List Nd) (h : ∀ b c s, r = b :: c :: s → ¬ (a = nd 6 ∧ b.1 = 1 ∧ c = nd 3)) : stripR (a :: r) = a :: stripR r := by
  match r with
  | [] => simp [stripR]
  | [b] => simp [stripR]
  | b :: c :: s => exact stripR_cons (h b c s rfl)

theorem stripR_none {a : Nd} {r : List Nd} (h : stripR (a :: r) = a :: r) : stripR r = r ∧ ∀ b c s, r = b :: c :: s → ¬ (a = nd 6 ∧ b.1 = 1 ∧ c = nd 3) := by
  have hn : ∀ b c s, r = b :: c :: s → ¬ (a = nd 6 ∧ b.1 = 1 ∧ c = nd 3) := fun b c s e hp => by
    subst e
    obtain ⟨rfl, h1, rfl⟩ := hp
    rw [stripR_hit h1] at h
    have h2 := congrArg List.length h
    have h3 := stripR_le s
    simp at h2; omega
  rw [stripR_one a r hn] at h
  exact ⟨by simpa using h, hn⟩

theorem rewR_head (names : List ByteArray) (l : List Nd) : (∃ r, rewR names l = nd 6 :: r) ∨ (∃ n r, l = n :: r ∧ rewR names l = n :: rewR names r) ∨ l = [] := by
  cases l with
  | nil => exact .inr (.inr rfl)
  | cons n r =>
    rw [rewR_cons]
    unfold rw1
    cases hit names n with
    | true => exact .inl ⟨_, rfl⟩
    | false => exact .inr (.inl ⟨n, r, rfl, rfl⟩)

theorem strip_rew (names : List ByteArray) : ∀ l : List Nd, stripR l = l → stripR (rewR names l) = l
  | [], _ => by simp [rewR, stripR]
  | n :: r, h => by
    obtain ⟨h1, h2⟩ := stripR_none h
    have ih := strip_rew names r h1
    rw [rewR_cons]
    unfold rw1
    cases hh : hit names n with
    | true =>
      have hk : n.1 = 1 := by
        unfold hit at hh
        simp only [Bool.and_eq_true, decide_eq_true_eq] at hh
        exact hh.1
      show stripR (nd 6 :: n :: nd 3 :: rewR names r) = _
      rw [stripR_hit hk, ih]
    | false =>
      show stripR (n :: rewR names r) = _
      rw [stripR_one n _ ?_, ih]
      intro b c s e ⟨e1, e2, e3⟩
      rcases rewR_head names r with ⟨q, hq⟩ | ⟨m, q, rfl, hq⟩ | rfl
      · rw [hq] at e
        injection e with e4 _
        rw [← e4] at e2; cases e2
      · rw [hq] at e
        injection e with e4 e5
        subst e4
        rcases rewR_head names q with ⟨p, hp⟩ | ⟨k, p, rfl, hp⟩ | rfl
        · rw [hp] at e5
          injection e5 with e6 _
          rw [← e6] at e3; cases e3
        · rw [hp] at e5
          injection e5 with e6 _
          subst e6
          exact h2 _ _ _ rfl ⟨e1, e2, e3⟩
        · simp [rewR] at e5
      · simp [rewR] at e

/-! ### trees, rewritten -/
def T.rw (ns : List ByteArray) : T → T
  | .n0 n => bif hit ns n then .n2 (nd 6) (.n0 n) (.n0 (nd 3)) else .n0 n
  | .n1 n a => .n1 n (a.rw ns)
  | .n2 n a b => .n2 n (a.rw ns) (b.rw ns)

theorem hit_kind {ns : List ByteArray} {n : Nd} (h : hit ns n = true) : n.1 = 1 := by
  unfold hit at h
  simp only [Bool.and_eq_true, decide_eq_true_eq] at h
  exact h.1

theorem hit_ar {ns : List ByteArray} {n : Nd} {k : Nat} (h : ar n.1 = some (k + 1)) : hit ns n = false := by
  cases hh : hit ns n with
  | false => rfl
  | true => rw [hit_kind hh] at h; cases h

theorem P_rew (ns : List ByteArray) : ∀ (n : Nat) (l : List Nd), l.length ≤ n → P (rewR ns l) = match P l with | none => none | some (t, r) => some (t.rw ns, rewR ns r) := by
  intro n
  induction n with
  | zero =>
    intro l h
    have : l = [] := List.eq_nil_of_length_eq_zero (by omega)
    subst this; rfl
  | succ n ih =>
    intro l h
    cases l with
    | nil => rfl
    | cons x l =>
      simp only [List.length_cons] at h
      rw [rewR_cons, P_cons x l]
      unfold rw1
      cases hh : hit ns x with
      | true =>
        have hk := hit_kind hh
        have ha : ar x.1 = some 0 := by rw [hk]; rfl
        show P (nd 6 :: x :: nd 3 :: rewR ns l) = _
        rw [P_cons (nd 6), P_cons x, ha]
        simp only [show ar (nd 6).1 = some 2 from rfl]
        rw [P_cons (nd 3)]
        simp only [show ar (nd 3).1 = some 0 from rfl, T.rw, hh, cond_true]
      | false =>
        show P (x :: rewR ns l) = _
        rw [P_cons x]
        cases ha : ar x.1 with
        | none => rfl
        | some m =>
          have hm := ar_le ha
          rcases m with _ | _ | _ | m
          · simp only [T.rw, hh, cond_false]
          · simp only [ih l (by omega)]
            cases P l with
            | none => rfl
            | some q => rfl
          · simp only [ih l (by omega)]
            cases hp : P l with
            | none => rfl
            | some q =>
              obtain ⟨a, l1⟩ := q
              have hl := congrArg List.length (P_some hp).2
              rw [List.length_append] at hl
              simp only [ih l1 (by omega)]
              cases P l1 with
              | none => rfl
              | some q => rfl
          · omega

theorem one_rew (ns : List ByteArray) (l : List Nd) : one (rewR ns l) = one l := by
  unfold one
  rw [P_rew ns l.length l (Nat.le_refl _)]
  cases P l with
  | none => rfl
  | some q =>
    obtain ⟨t, r⟩ := q
    cases r with
    | nil => rfl
    | cons x r =>
      simp only [rewR_cons]
      unfold rw1
      cases hit ns x <;> rfl

theorem right_rew (ns : List ByteArray) (l : List Nd) : (rewR ns l).all right = l.all right := by
  induction l with
  | nil => rfl
  | cons x l ih =>
    rw [rewR_cons, List.all_append, ih, List.all_cons]
    congr 1
    unfold rw1
    cases hit ns x with
    | true =>
      show (right (nd 6) && (right x && (right (nd 3) && true))) = right x
      rw [show right (nd 6) = true from rfl, show right (nd 3) = true from rfl]; simp
    | false => simp

namespace Tm
/-- A term whose actions may be refused. -/
def rew (ns : List ByteArray) : Tm → Tm
  | act s => bif decide (s ∈ ns) then alt (act s) throw else act s
  | seq a b => seq (a.rew ns) (b.rew ns)
  | alt a b => alt (a.rew ns) (b.rew ns)
  | par a b => par (a.rew ns) (b.rew ns)
  | hand a b => hand (a.rew ns) (b.rew ns)
  | block a => block (a.rew ns)
  | pair a b => pair (a.rew ns) (b.rew ns)
  | going a b => going (a.rew ns) (b.rew ns)
  | stack a b => stack (a.rew ns) (b.rew ns)
  | fin s a => fin s (a.rew ns)
  | m => m

theorem rew_t (ns : List ByteArray) (m : Tm) : (m.rew ns).t = m.t.rw ns := by
  induction m with
  | act s =>
    show (bif decide (s ∈ ns) then alt (act s) throw else act s : Tm).t = (T.n0 (1, s, 0)).rw ns
    simp only [T.rw, hit, decide_true, Bool.true_and]
    cases decide (s ∈ ns) <;> rfl
  | skip | throw | yield => rfl
  | over s => rfl
  | block a ih => simp only [rew, t, T.rw, ih]
  | fin s a ih => simp only [rew, t, T.rw, ih]
  | seq a b iha ihb | alt a b iha ihb | par a b iha ihb | hand a b iha ihb | pair a b iha ihb | going a b iha ihb | stack a b iha ihb => simp only [rew, t, T.rw, iha, ihb]

theorem rw_row (ns : List ByteArray) : ∀ t : T, t.ok → (t.rw ns).row = rewR ns t.row
  | .n0 n, h => by
    simp only [T.rw, T.row, rewR_cons, rw1]
    cases hit ns n <;> rfl
  | .n1 n a, h => by
    simp only [T.rw, T.row, rewR_cons, rw1, hit_ar h.1, cond_false, rw_row ns a h.2]; rfl
  | .n2 n a b, h => by
    simp only [T.rw, T.row, rewR_cons, rewR_append, rw1, hit_ar h.1, cond_false, rw_row ns a h.2.1, rw_row ns b h.2.2]; rfl

theorem rew_row (ns : List ByteArray) (m : Tm) : (m.rew ns).row = rewR ns m.row := by
  unfold row
  rw [rew_t, rw_row ns m.t m.t_ok]

theorem rew_good {p : ByteArray → Prop} {q : Int → Prop} (ns : List ByteArray) {m : Tm} (h : m.good p q) : (m.rew ns).good p q := by
  induction m with
  | act s =>
    simp only [rew]
    cases decide (s ∈ ns) with
    | true => exact ⟨h, trivial⟩
    | false => exact h
  | skip | throw | yield => trivial
  | over s => exact h
  | block a ih => exact ih h
  | fin s a ih => exact ⟨h.1, ih h.2⟩
  | seq a b iha ihb | alt a b iha ihb | par a b iha ihb | hand a b iha ihb | pair a b iha ihb | going a b iha ihb | stack a b iha ihb => exact ⟨iha h.1, ihb h.2⟩

theorem rew_sorts (ns : List ByteArray) (m : Tm) : (m.rew ns).pl = m.pl ∧ (m.rew ns).pa = m.pa ∧ (m.rew ns).po = m.po ∧ (m.rew ns).qo = m.qo := by
  induction m with
  | act s =>
    simp only [rew]
    cases decide (s ∈ ns) <;> exact ⟨rfl, rfl, rfl, rfl⟩
  | skip | throw | yield => exact ⟨rfl, rfl, rfl, rfl⟩
  | over s => exact ⟨rfl, rfl, rfl, rfl⟩
  | block a ih => simp only [rew, pl, pa, po, qo, ih]; trivial
  | fin s a ih => simp only [rew, pl, pa, po, qo, ih]; trivial
  | seq a b iha ihb | alt a b iha ihb | par a b iha ihb | hand a b iha ihb | pair a b iha ihb | going a b iha ihb | stack a b iha ihb => simp only [rew, pl, pa, po, qo, iha, ihb]; trivial

theorem rew_so (ns : List ByteArray) (m : Tm) : (m.rew ns).so = m.so := by
  obtain ⟨h1, h2, h3, h4⟩ := rew_sorts ns m
  unfold so
  rw [h1, h2, h3, h4]
end Tm

theorem sOf_rew (ns : List ByteArray) (l : List Nd) (h : (rewR ns l).length ≤ 200) : sOf (rewR ns l) = sOf l := by
  cases ht : tmOf l with
  | some m =>
    obtain ⟨rfl, h2, h3⟩ := tmOf_some.1 ht
    have hs : (m.rew ns).size ≤ 200 := by rw [← Tm.len_row, Tm.rew_row]; exact h
    rw [← Tm.rew_row, sOf_row (Tm.rew_good ns h2) hs, sOf_row h2 h3, Tm.rew_so]
  | none =>
    have hw : whole (rewR ns l) = false := by
      have hl := tmOf_none.1 ht
      have hlen := rewR_len ns l
      unfold whole at hl ⊢
      rw [right_rew, one_rew, decide_eq_true h]
      rw [decide_eq_true (show l.length ≤ 200 by omega)] at hl
      exact hl
    unfold sOf
    rw [ht, tmOf_none.2 hw]

theorem cnt_rew (ns : List ByteArray) (l : List Nd) : (rewR ns l).countP (fun x => decide (x.1 ∈ [(1 : Int)])) = l.countP (fun x => decide (x.1 ∈ [(1 : Int)])) := by
  induction l with
  | nil => rfl
  | cons x l ih =>
    rw [rewR_cons, List.countP_append, ih, List.countP_cons]
    unfold rw1
    cases hh : hit ns x with
    | true =>
      have hk := hit_kind hh
      simp [rf, List.countP_cons, hk, nd]; omega
    | false => simp [List.countP_cons]; omega
end Go.Rd
