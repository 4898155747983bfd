/- Rows whose actions may be refused. Plain Lean, no program in sight. -/
import Derived.Test.YtnooginekcnflaaM2
namespace Go.Rd
open Go Go.Sv
set_option linter.unusedVariables false
set_option linter.unusedSimpArgs false

def rf (n : Nd) : List Nd := [nd 6, n, nd 3]
/-- An action of one of the names. -/
def hit (names : List ByteArray) (n : Nd) : Bool := decide (n.1 = 1) && decide (n.2.1 ∈ names)
def rw1 (names : List ByteArray) (n : Nd) : List Nd := bif hit names n then rf n else [n]
def rewR (names : List ByteArray) (l : List Nd) : List Nd := l.flatMap (rw1 names)

def isAt (a : ByteArray) (n : Nd) : Bool := decide (n.1 = 1) && decide (n.2.1 = a)
def placesR (a : ByteArray) : List Nd → Nat → List Int
  | [], _ => []
  | n :: r, i => bif isAt a n then (i : Int) :: placesR a r (i + 1) else placesR a r (i + 1)
def markR (l : List Nd) (at_ : Int) (i : Nat) : List Nd := match l with
  | [] => []
  | n :: r => (bif decide ((i : Int) = at_) && decide (n.1 = 1) then rf n else [n]) ++ markR r at_ (i + 1)
def stripR : List Nd → List Nd
  | [] => []
  | [a] => [a]
  | [a, b] => [a, b]
  | a :: b :: c :: r => if a = nd 6 ∧ b.1 = 1 ∧ c = nd 3 then b :: stripR r else a :: stripR (b :: c :: r)
termination_by l => l.length

theorem placesR_len (a : ByteArray) : ∀ (l : List Nd) (i : Nat), (placesR a l i).length = l.countP (isAt a)
  | [], i => rfl
  | n :: r, i => by
    simp only [placesR, List.countP_cons]
    cases h : isAt a n <;> simp [placesR_len a r (i + 1)]
theorem rewR_len (names : List ByteArray) : ∀ l : List Nd, (rewR names l).length = l.length + 2 * l.countP (hit names)
  | [] => rfl
  | n :: r => by
    have := rewR_len names r
    unfold rewR at this ⊢
    simp only [List.flatMap_cons, List.length_append, List.length_cons, List.countP_cons, this, rw1]
    cases hit names n <;> simp [rf] <;> omega
theorem rewR_cons (names : List ByteArray) (n : Nd) (r : List Nd) : rewR names (n :: r) = rw1 names n ++ rewR names r := rfl
theorem rewR_append (names : List ByteArray) (a b : List Nd) : rewR names (a ++ b) = rewR names a ++ rewR names b := List.flatMap_append ..

/-- One name more. -/
theorem hit_snoc (ns : List ByteArray) (s : ByteArray) (l : List Nd) : l.countP (hit (ns ++ [s])) = l.countP (hit ns) + (if s ∈ ns then 0 else l.countP (isAt s)) := by
  by_cases hs : s ∈ ns
  · rw [if_pos hs, Nat.add_zero]
    have : hit (ns ++ [s]) = hit ns := funext fun n => by
      unfold hit
      congr 1
      rw [decide_eq_decide]
      simp only [List.mem_append, List.mem_singleton]
      exact ⟨fun h => by rcases h with h | h; exact h; exact h ▸ hs, .inl⟩
    rw [this]
  · rw [if_neg hs]
    induction l with
    | nil => rfl
    | cons n r ih =>
      simp only [List.countP_cons, ih]
      have : ((if hit (ns ++ [s]) n = true then 1 else 0) : Nat) = (if hit ns n = true then 1 else 0) + (if isAt s n = true then 1 else 0) := by
        unfold hit isAt
        by_cases h1 : n.1 = 1
        · by_cases h2 : n.2.1 = s
          · simp [h1, h2, hs]
          · simp [h1, h2]
        · simp [h1]
      omega

theorem stripR_le : ∀ l : List Nd, (stripR l).length ≤ l.length := by
  intro l
  fun_induction stripR l <;> simp_all <;> omega
theorem stripR_cons {a b c : Nd} {r : List Nd} (h : ¬ (a = nd 6 ∧ b.1 = 1 ∧ c = nd 3)) : stripR (a :: b :: c :: r) = a :: stripR (b :: c :: r) := by rw [stripR, if_neg h]
theorem stripR_hit {b : Nd} {r : List Nd} (h : b.1 = 1) : stripR (nd 6 :: b :: nd 3 :: r) = b :: stripR r := by rw [stripR, if_pos ⟨rfl, h, rfl⟩]
theorem stripR_one (a : Nd) (r : List Nd) (h : ∀ b c s, r = b :: c :: s → ¬ (a = nd 6 ∧ b.1 = 1 ∧ c = nd 3)) : stripR (a :: r) = a :: stripR r := by
  match r with
  | [] => simp [stripR]
  | [b] => simp [stripR]
  | b :: c :: s => exact stripR_cons (h b c s rfl)
theorem stripR_none {a : Nd} {r : List Nd} (h : stripR (a :: r) = a :: r) : stripR r = r ∧ ∀ b c s, r = b :: c :: s → ¬ (a = nd 6 ∧ b.1 = 1 ∧ c = nd 3) := by
  have hn : ∀ b c s, r = b :: c :: s → ¬ (a = nd 6 ∧ b.1 = 1 ∧ c = nd 3) := fun b c s e hp => by
    subst e
    obtain ⟨rfl, h1, rfl⟩ := hp
    rw [stripR_hit h1] at h
    have h2 := congrArg List.length h
    have h3 := stripR_le s
    simp at h2; omega
  rw [stripR_one a r hn] at h
  exact ⟨by simpa using h, hn⟩

theorem rewR_head (names : List ByteArray) (l : List Nd) : (∃ r, rewR names l = nd 6 :: r) ∨ (∃ n r, l = n :: r ∧ rewR names l = n :: rewR names r) ∨ l = [] := by
  cases l with
  | nil => exact .inr (.inr rfl)
  | cons n r =>
    rw [rewR_cons]
    unfold rw1
    cases hit names n with
    | true => exact .inl ⟨_, rfl⟩
    | false => exact .inr (.inl ⟨n, r, rfl, rfl⟩)

theorem strip_rew (names : List ByteArray) : ∀ l : List Nd, stripR l = l → stripR (rewR names l) = l
  | [], _ => by simp [rewR, stripR]
  | n :: r, h => by
    obtain ⟨h1, h2⟩ := stripR_none h
    have ih := strip_rew names r h1
    rw [rewR_cons]
    unfold rw1
    cases hh : hit names n with
    | true =>
      have hk : n.1 = 1 := by
        unfold hit at hh
        simp only [Bool.and_eq_true, decide_eq_true_eq] at hh
        exact hh.1
      show stripR (nd 6 :: n :: nd 3 :: rewR names r) = _
      rw [stripR_hit hk, ih]
    | false =>
      show stripR (n :: rewR names r) = _
      rw [stripR_one n _ ?_, ih]
      intro b c s e ⟨e1, e2, e3⟩
      rcases rewR_head names r with ⟨q, hq⟩ | ⟨m, q, rfl, hq⟩ | rfl
      · rw [hq] at e
        injection e with e4 _
        rw [← e4] at e2; cases e2
      · rw [hq] at e
        injection e with e4 e5
        subst e4
        rcases rewR_head names q with ⟨p, hp⟩ | ⟨k, p, rfl, hp⟩ | rfl
        · rw [hp] at e5
          injection e5 with e6 _
          rw [← e6] at e3; cases e3
        · rw [hp] at e5
          injection e5 with e6 _
          subst e6
          exact h2 _ _ _ rfl ⟨e1, e2, e3⟩
        · simp [rewR] at e5
      · simp [rewR] at e
end Go.Rd
